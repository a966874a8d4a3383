/-
  Merged: SyO, SyN, SyS, SyG, SyH, SyI, SyJ, SyL, SyR, SyLt.
-/
import Derived.Test.YtifajndacnfcbaaDoorSw6
set_option maxRecDepth 100000
namespace Go.Proofs.YtifajndacnfcbaaDoor
open Go Go.RowKit
theorem s6 : adw Tryd.prog 80 = true := by kernel_rfl
theorem aa1 : aff Tryd.prog 80 = some (Value.agg [zI 0, st [], Value.nilIface, Value.nilIface].toArray) := by kernel_rfl
theorem s5 : adw Tryd.prog 78 = true := by kernel_rfl
theorem aaz : aff Tryd.prog 78 = some (Value.agg [zI 0, st [], Value.nilIface].toArray) := by kernel_rfl
theorem aag : adw Tryd.prog 71 = true := by kernel_rfl
theorem anj : aa5 Tryd.prog 71 = some [zI 0, st []] := by kernel_rfl
theorem amk : n8 Tryd.prog 71 2 = true := by kernel_rfl
theorem f9 : g0 Tryd.prog 90 0 = some 0 := by kernel_rfl
theorem ain : g0 Tryd.prog 71 1 = some 1 := by kernel_rfl
theorem k9 : l6 Tryd.prog 30 = true := by kernel_rfl
theorem aax : aff Tryd.prog 71 = some (Value.agg [zI 0, st []].toArray) := by kernel_rfl
theorem aa2 : adw Tryd.prog 73 = true := by kernel_rfl
theorem aml : aa5 Tryd.prog 73 = some [zI 0, st []] := by kernel_rfl
theorem am7 : n8 Tryd.prog 73 2 = true := by kernel_rfl
theorem aij : g0 Tryd.prog 73 1 = some 1 := by kernel_rfl
theorem aog : l6 Tryd.prog 56 = true := by kernel_rfl
theorem abi : aff Tryd.prog 73 = some (Value.agg [zI 0, st []].toArray) := by kernel_rfl
theorem abt : adw Tryd.prog 74 = true := by kernel_rfl
theorem amo : aa5 Tryd.prog 74 = some [zI 0, st []] := by kernel_rfl
theorem ang : n8 Tryd.prog 74 2 = true := by kernel_rfl
theorem ah5 : g0 Tryd.prog 74 1 = some 1 := by kernel_rfl
theorem acf : aff Tryd.prog 74 = some (Value.agg [zI 0, st []].toArray) := by kernel_rfl
theorem aco : adw Tryd.prog 76 = true := by kernel_rfl
theorem ana : aa5 Tryd.prog 76 = some [zI 0, Value.nilIface] := by kernel_rfl
theorem am6 : n8 Tryd.prog 76 2 = true := by kernel_rfl
theorem ais : g0 Tryd.prog 76 1 = some 1 := by kernel_rfl
theorem o9 : aaf Tryd.prog 37 = true := by kernel_rfl
theorem u4 : l6 Tryd.prog 31 = true := by kernel_rfl
theorem acs : aa5 Tryd.prog 78 = some [zI 0, st [], Value.nilIface] := by kernel_rfl
theorem acz : n8 Tryd.prog 78 3 = true := by kernel_rfl
theorem ad0 : aff Tryd.prog 76 = some (Value.agg [zI 0, Value.nilIface].toArray) := by kernel_rfl
theorem ael : g0 Tryd.prog 78 2 = some 2 := by kernel_rfl
theorem aeh : g0 Tryd.prog 78 1 = some 1 := by kernel_rfl
theorem acv : aa5 Tryd.prog 80 = some [zI 0, st [], Value.nilIface, Value.nilIface] := by kernel_rfl
theorem act : n8 Tryd.prog 80 4 = true := by kernel_rfl
theorem aav : g0 Tryd.prog 80 1 = some 1 := by kernel_rfl
theorem aei : g0 Tryd.prog 80 2 = some 2 := by kernel_rfl
theorem aef : g0 Tryd.prog 80 3 = some 3 := by kernel_rfl
theorem ap3 : adw Tryd.prog 83 = true := by kernel_rfl
theorem ah4 : g0 Tryd.prog 83 1 = some 1 := by kernel_rfl
def adk (bl : List UInt8) (_ : Int) (s0 : List UInt8) (need : Int) (K : (List UInt8) → Prop) : Prop :=
 ∃ (J0 : Prop),
  (∀ (_ : Unit), J0 →
   ((decide (6 < need)) = false) ∧
   (bl.length + s0.length ≤ 140737488355328) ∧
   K (bl ++ s0)) ∧
  J0
theorem alo (pb : Nat) (te : TypeId) (fre : Nat × Nat) (B : List (Nat × Obj)) (bl : List UInt8) (p0 : Int) (s0 : List UInt8) (need : Int) (K : (List UInt8) → Prop) (h : adk bl p0 s0 need K) :
  d9 Tryd.prog 31 [zP pb, Value.iface 71 (Value.agg [zI p0, st s0].toArray), zI need] (B ++ [(0, .cells [st ([124] : List UInt8), st ([38, 45] : List UInt8), st ([62, 62] : List UInt8), st ([126] : List UInt8), st ([46] : List UInt8)].toArray te fre)]) [bld 90 5 pb bl] (fun o => (∃ (d : List UInt8), K d ∧ o = .ret (Value.tuple #[]) [bld 90 5 pb d]) ∨ (False)) := by
 unfold adk at h
 refine p7 (n := 151) (L0 := [(0, zP pb), (1, Value.iface 71 (Value.agg [zI p0, st s0].toArray)), (2, zI need)]) Tryd.func31 rfl rfl rfl rfl (fun w0 M Q hE => ?_)
 refine a7 (fun _ hK => ?_)
 refine a6 ?_
 refine wA ?_
 refine WL.nil ?_
 refine kg (hK [(0, zP pb), (1, Value.iface 71 (Value.agg [zI p0, st s0].toArray)), (2, zI need), (6, zI 6)] _ ?_)
 obtain ⟨J0, hJ, h⟩ := h
 refine p5 (X := Unit) (fun _ => J0) (fun _ => [(0, zP pb), (1, Value.iface 71 (Value.agg [zI p0, st s0].toArray)), (2, zI need), (6, zI 6)]) (fun _ => [bld 90 5 pb bl]) ?_ (fun K0_4' hK_4' => ?_)
 ·rintro _ hj
  replace h := hJ () hj
  show WC _ _ _ _ [(0, zP pb), (1, Value.iface 71 (Value.agg [zI p0, st s0].toArray)), (2, zI need), (6, zI 6)] [bld 90 5 pb bl]
  refine a7 (fun _ hK_5' => ?_)
  refine a7 (fun _ hK_6' => ?_)
  refine a6 ?_
  refine wm ?_
  refine wm ?_
  refine wv (OV.lss rfl rfl) ?_
  refine WL.nil ?_
  refine kg (hK_6' [(0, zP pb), (1, Value.iface 71 (Value.agg [zI p0, st s0].toArray)), (6, zI 6), (30, zB (decide (6 < need)))] _ ?_)
  obtain ⟨o, h⟩ := h
  refine b5 (b := decide (6 < need)) rfl (fun hb => ?_) (fun hb => ?_)
  ·rw [o] at hb; cases hb
  refine b7 ?_
  refine kg (hK_5' [(0, zP pb), (1, Value.iface 71 (Value.agg [zI p0, st s0].toArray)), (6, zI 6)] _ ?_)
  refine a7 (fun _ hK_7' => ?_)
  refine a6 ?_
  refine wm ?_
  refine WL.nil ?_
  refine kg (hK_7' [(0, zP pb), (6, zI 6), (38, Value.iface 71 (Value.agg [zI p0, st s0].toArray))] _ ?_)
  refine b8 ?_
  refine a7 (fun _ hK_8' => ?_)
  refine a6 ?_
  refine wv (OV.assertYes (t' := 71) (v := Value.agg [zI p0, st s0].toArray) rfl aag) ?_
  refine wv (OV.extract 1 rfl rfl) ?_
  refine wv (OV.extract 0 rfl rfl) ?_
  refine WL.nil ?_
  refine kg (hK_8' [(0, zP pb), (6, zI 6), (38, Value.iface 71 (Value.agg [zI p0, st s0].toArray)), (40, zB true), (41, Value.agg [zI p0, st s0].toArray)] _ ?_)
  refine h8 rfl ?_
  refine a7 (fun _ hK_9' => ?_)
  refine a6 ?_
  refine WL.make (MV.alloc anj) rfl rfl rfl (fun b => ?_)
  refine WL.storeW (vs := [zI p0, st s0]) 0 rfl rfl rfl rfl rfl amk rfl rfl rfl ?_
  refine WL.nil ?_
  refine kg (hK_9' [(0, zP pb), (9, zP b)] _ ?_)
  refine n4 5 [] j3 (by kernel_rfl) rfl (fun T hT => ?_)
  refine fv (fun _ => OV.move rfl) ?_
  refine fv (fun _ => OV.nilCheck rfl) ?_
  refine fv (fun _ => OV.fieldAddr0 rfl f9) ?_
  refine fv (fun _ => OV.fieldAddr0 rfl ain) ?_
  refine fv (fun _ => OV.load rfl (At.own 0 rfl) rfl c6) ?_
  refine FL.weak (L' := fun γ => [(44, zP pb), (46, st s0)]) (fun γ => ⟨rfl, rfl, trivial⟩) (FL.nil (hT (fun γ => [(44, zP pb), (46, st s0)]) (fun γ => ?_)))
  obtain ⟨o_1', h⟩ := h
  refine WL.pick (H' := [bld 90 5 pb bl, HA.blk b (.cells [zI p0, st s0].toArray 71 (0, 0))]) [1, 0] rfl rfl ?_
  refine WL.call k9 rfl (f0 pb bl s0 o_1') rfl trivial rfl rfl ?_
  refine WL.nil ?_
  exact hE.norm (abw [0] rfl rfl (.inl ⟨_, h, rfl⟩) (e9.none rfl))
 ·skip
  refine a7 (fun _ hK_10' => ?_)
  refine a6 ?_
  refine wm ?_
  refine WL.nil ?_
  refine kg (hK_10' [(0, zP pb), (1, Value.iface 71 (Value.agg [zI p0, st s0].toArray)), (2, zI need), (6, zI 6), (18, Value.iface 71 (Value.agg [zI p0, st s0].toArray))] _ ?_)
  refine b8 ?_
  refine a7 (fun _ hK_11' => ?_)
  refine a6 ?_
  refine wv (OV.assertNo (t2 := 71) (v := Value.agg [zI p0, st s0].toArray) rfl s6 aa1 rfl) ?_
  refine wv (OV.extract 1 rfl rfl) ?_
  refine wv (OV.extract 0 rfl rfl) ?_
  refine WL.nil ?_
  refine kg (hK_11' [(0, zP pb), (1, Value.iface 71 (Value.agg [zI p0, st s0].toArray)), (2, zI need), (6, zI 6), (18, Value.iface 71 (Value.agg [zI p0, st s0].toArray)), (20, zB false), (21, Value.agg [zI 0, st [], Value.nilIface, Value.nilIface].toArray)] _ ?_)
  refine d7 rfl ?_
  refine a7 (fun _ hK_12' => ?_)
  refine a6 ?_
  refine wv (OV.assertNo (t2 := 71) (v := Value.agg [zI p0, st s0].toArray) rfl s5 aaz rfl) ?_
  refine wv (OV.extract 1 rfl rfl) ?_
  refine wv (OV.extract 0 rfl rfl) ?_
  refine WL.nil ?_
  refine kg (hK_12' [(0, zP pb), (1, Value.iface 71 (Value.agg [zI p0, st s0].toArray)), (2, zI need), (6, zI 6), (26, zB false), (27, Value.agg [zI 0, st [], Value.nilIface].toArray)] _ ?_)
  refine d7 rfl ?_
  refine b7 ?_
  exact kh (hK_4' () h) [0]
def adj (bl : List UInt8) (_ : Int) (s0 : List UInt8) (need : Int) (K : (List UInt8) → Prop) : Prop :=
 ∃ (J0 : Prop),
  (∀ (_ : Unit), J0 →
   ((decide (6 < need)) = false) ∧
   (s0.length ≤ 1048576) ∧
   (bl.length + (abg s0).length ≤ 140737488355328) ∧
   K (bl ++ (abg s0))) ∧
  J0
theorem ak7 (pb : Nat) (te : TypeId) (fre : Nat × Nat) (B : List (Nat × Obj)) (bl : List UInt8) (p0 : Int) (s0 : List UInt8) (need : Int) (K : (List UInt8) → Prop) (h : adj bl p0 s0 need K) :
  d9 Tryd.prog 31 [zP pb, Value.iface 73 (Value.agg [zI p0, st s0].toArray), zI need] (B ++ [(0, .cells [st ([124] : List UInt8), st ([38, 45] : List UInt8), st ([62, 62] : List UInt8), st ([126] : List UInt8), st ([46] : List UInt8)].toArray te fre)]) [bld 90 5 pb bl] (fun o => (∃ (d : List UInt8), K d ∧ o = .ret (Value.tuple #[]) [bld 90 5 pb d]) ∨ (False)) := by
 unfold adj at h
 refine p7 (n := 151) (L0 := [(0, zP pb), (1, Value.iface 73 (Value.agg [zI p0, st s0].toArray)), (2, zI need)]) Tryd.func31 rfl rfl rfl rfl (fun w0 M Q hE => ?_)
 refine a7 (fun _ hK => ?_)
 refine a6 ?_
 refine wA ?_
 refine WL.nil ?_
 refine kg (hK [(0, zP pb), (1, Value.iface 73 (Value.agg [zI p0, st s0].toArray)), (2, zI need), (6, zI 6)] _ ?_)
 obtain ⟨J0, hJ, h⟩ := h
 refine p5 (X := Unit) (fun _ => J0) (fun _ => [(0, zP pb), (1, Value.iface 73 (Value.agg [zI p0, st s0].toArray)), (2, zI need), (6, zI 6)]) (fun _ => [bld 90 5 pb bl]) ?_ (fun K0_4' hK_4' => ?_)
 ·rintro _ hj
  replace h := hJ () hj
  show WC _ _ _ _ [(0, zP pb), (1, Value.iface 73 (Value.agg [zI p0, st s0].toArray)), (2, zI need), (6, zI 6)] [bld 90 5 pb bl]
  refine a7 (fun _ hK_5' => ?_)
  refine a7 (fun _ hK_6' => ?_)
  refine a6 ?_
  refine wm ?_
  refine wm ?_
  refine wv (OV.lss rfl rfl) ?_
  refine WL.nil ?_
  refine kg (hK_6' [(0, zP pb), (1, Value.iface 73 (Value.agg [zI p0, st s0].toArray)), (6, zI 6), (30, zB (decide (6 < need)))] _ ?_)
  obtain ⟨o, h⟩ := h
  refine b5 (b := decide (6 < need)) rfl (fun hb => ?_) (fun hb => ?_)
  ·rw [o] at hb; cases hb
  refine b7 ?_
  refine kg (hK_5' [(0, zP pb), (1, Value.iface 73 (Value.agg [zI p0, st s0].toArray)), (6, zI 6)] _ ?_)
  refine a7 (fun _ hK_7' => ?_)
  refine a6 ?_
  refine wm ?_
  refine WL.nil ?_
  refine kg (hK_7' [(0, zP pb), (6, zI 6), (38, Value.iface 73 (Value.agg [zI p0, st s0].toArray))] _ ?_)
  refine b8 ?_
  refine a7 (fun _ hK_8' => ?_)
  refine a6 ?_
  refine wv (OV.assertNo (t2 := 73) (v := Value.agg [zI p0, st s0].toArray) rfl aag aax rfl) ?_
  refine wv (OV.extract 1 rfl rfl) ?_
  refine wv (OV.extract 0 rfl rfl) ?_
  refine WL.nil ?_
  refine kg (hK_8' [(0, zP pb), (6, zI 6), (38, Value.iface 73 (Value.agg [zI p0, st s0].toArray)), (40, zB false), (41, Value.agg [zI 0, st []].toArray)] _ ?_)
  refine d7 rfl ?_
  refine a7 (fun _ hK_9' => ?_)
  refine a6 ?_
  refine wv (OV.assertYes (t' := 73) (v := Value.agg [zI p0, st s0].toArray) rfl aa2) ?_
  refine wv (OV.extract 1 rfl rfl) ?_
  refine wv (OV.extract 0 rfl rfl) ?_
  refine WL.nil ?_
  refine kg (hK_9' [(0, zP pb), (6, zI 6), (38, Value.iface 73 (Value.agg [zI p0, st s0].toArray)), (49, zB true), (50, Value.agg [zI p0, st s0].toArray)] _ ?_)
  refine h8 rfl ?_
  refine a7 (fun _ hK_10' => ?_)
  refine a6 ?_
  refine WL.make (MV.alloc aml) rfl rfl rfl (fun b => ?_)
  refine WL.storeW (vs := [zI p0, st s0]) 0 rfl rfl rfl rfl rfl am7 rfl rfl rfl ?_
  refine WL.nil ?_
  refine kg (hK_10' [(0, zP pb), (10, zP b)] _ ?_)
  refine n4 6 [] j3 (by kernel_rfl) rfl (fun T hT => ?_)
  refine fv (fun _ => OV.move rfl) ?_
  refine fv (fun _ => OV.nilCheck rfl) ?_
  refine fv (fun _ => OV.fieldAddr0 rfl f9) ?_
  refine fv (fun _ => OV.fieldAddr0 rfl aij) ?_
  refine fv (fun _ => OV.load rfl (At.own 0 rfl) rfl c6) ?_
  obtain ⟨o_1', h⟩ := h
  refine FL.call aog (fun _ => rfl) (anl s0 o_1') trivial rfl (fun _ => rfl) rfl ?_
  refine FL.weak (L' := fun γ => [(53, zP pb), (56, st (abg s0))]) (fun γ => ⟨rfl, rfl, trivial⟩) (FL.nil (hT (fun γ => [(53, zP pb), (56, st (abg s0))]) (fun γ => ?_)))
  obtain ⟨o_2', h⟩ := h
  refine WL.pick (H' := [bld 90 5 pb bl, HA.blk b (.cells [zI p0, st s0].toArray 73 (0, 0))]) [1, 0] rfl rfl ?_
  refine WL.call k9 rfl (f0 pb bl (abg s0) o_2') rfl trivial rfl rfl ?_
  refine WL.nil ?_
  exact hE.norm (abw [0] rfl rfl (.inl ⟨_, h, rfl⟩) (e9.none rfl))
 ·skip
  refine a7 (fun _ hK_11' => ?_)
  refine a6 ?_
  refine wm ?_
  refine WL.nil ?_
  refine kg (hK_11' [(0, zP pb), (1, Value.iface 73 (Value.agg [zI p0, st s0].toArray)), (2, zI need), (6, zI 6), (18, Value.iface 73 (Value.agg [zI p0, st s0].toArray))] _ ?_)
  refine b8 ?_
  refine a7 (fun _ hK_12' => ?_)
  refine a6 ?_
  refine wv (OV.assertNo (t2 := 73) (v := Value.agg [zI p0, st s0].toArray) rfl s6 aa1 rfl) ?_
  refine wv (OV.extract 1 rfl rfl) ?_
  refine wv (OV.extract 0 rfl rfl) ?_
  refine WL.nil ?_
  refine kg (hK_12' [(0, zP pb), (1, Value.iface 73 (Value.agg [zI p0, st s0].toArray)), (2, zI need), (6, zI 6), (18, Value.iface 73 (Value.agg [zI p0, st s0].toArray)), (20, zB false), (21, Value.agg [zI 0, st [], Value.nilIface, Value.nilIface].toArray)] _ ?_)
  refine d7 rfl ?_
  refine a7 (fun _ hK_13' => ?_)
  refine a6 ?_
  refine wv (OV.assertNo (t2 := 73) (v := Value.agg [zI p0, st s0].toArray) rfl s5 aaz rfl) ?_
  refine wv (OV.extract 1 rfl rfl) ?_
  refine wv (OV.extract 0 rfl rfl) ?_
  refine WL.nil ?_
  refine kg (hK_13' [(0, zP pb), (1, Value.iface 73 (Value.agg [zI p0, st s0].toArray)), (2, zI need), (6, zI 6), (26, zB false), (27, Value.agg [zI 0, st [], Value.nilIface].toArray)] _ ?_)
  refine d7 rfl ?_
  refine b7 ?_
  exact kh (hK_4' () h) [0]
def acx (bl : List UInt8) (_ : Int) (s0 : List UInt8) (need : Int) (K : (List UInt8) → Prop) : Prop :=
 ∃ (J0 : Prop),
  (∀ (_ : Unit), J0 →
   ((decide (6 < need)) = false) ∧
   (([47] : List UInt8).length + s0.length ≤ 9223372036854775807) ∧
   ((([47] : List UInt8) ++ s0).length + ([47] : List UInt8).length ≤ 9223372036854775807) ∧
   (bl.length + ((([47] : List UInt8) ++ s0) ++ ([47] : List UInt8)).length ≤ 140737488355328) ∧
   K (bl ++ ((([47] : List UInt8) ++ s0) ++ ([47] : List UInt8)))) ∧
  J0
theorem aj4 (pb : Nat) (te : TypeId) (fre : Nat × Nat) (B : List (Nat × Obj)) (bl : List UInt8) (p0 : Int) (s0 : List UInt8) (need : Int) (K : (List UInt8) → Prop) (h : acx bl p0 s0 need K) :
  d9 Tryd.prog 31 [zP pb, Value.iface 74 (Value.agg [zI p0, st s0].toArray), zI need] (B ++ [(0, .cells [st ([124] : List UInt8), st ([38, 45] : List UInt8), st ([62, 62] : List UInt8), st ([126] : List UInt8), st ([46] : List UInt8)].toArray te fre)]) [bld 90 5 pb bl] (fun o => (∃ (d : List UInt8), K d ∧ o = .ret (Value.tuple #[]) [bld 90 5 pb d]) ∨ (False)) := by
 unfold acx at h
 refine p7 (n := 151) (L0 := [(0, zP pb), (1, Value.iface 74 (Value.agg [zI p0, st s0].toArray)), (2, zI need)]) Tryd.func31 rfl rfl rfl rfl (fun w0 M Q hE => ?_)
 refine a7 (fun _ hK => ?_)
 refine a6 ?_
 refine wA ?_
 refine WL.nil ?_
 refine kg (hK [(0, zP pb), (1, Value.iface 74 (Value.agg [zI p0, st s0].toArray)), (2, zI need), (6, zI 6)] _ ?_)
 obtain ⟨J0, hJ, h⟩ := h
 refine p5 (X := Unit) (fun _ => J0) (fun _ => [(0, zP pb), (1, Value.iface 74 (Value.agg [zI p0, st s0].toArray)), (2, zI need), (6, zI 6)]) (fun _ => [bld 90 5 pb bl]) ?_ (fun K0_4' hK_4' => ?_)
 ·rintro _ hj
  replace h := hJ () hj
  show WC _ _ _ _ [(0, zP pb), (1, Value.iface 74 (Value.agg [zI p0, st s0].toArray)), (2, zI need), (6, zI 6)] [bld 90 5 pb bl]
  refine a7 (fun _ hK_5' => ?_)
  refine a7 (fun _ hK_6' => ?_)
  refine a6 ?_
  refine wm ?_
  refine wm ?_
  refine wv (OV.lss rfl rfl) ?_
  refine WL.nil ?_
  refine kg (hK_6' [(0, zP pb), (1, Value.iface 74 (Value.agg [zI p0, st s0].toArray)), (6, zI 6), (30, zB (decide (6 < need)))] _ ?_)
  obtain ⟨o, h⟩ := h
  refine b5 (b := decide (6 < need)) rfl (fun hb => ?_) (fun hb => ?_)
  ·rw [o] at hb; cases hb
  refine b7 ?_
  refine kg (hK_5' [(0, zP pb), (1, Value.iface 74 (Value.agg [zI p0, st s0].toArray)), (6, zI 6)] _ ?_)
  refine a7 (fun _ hK_7' => ?_)
  refine a6 ?_
  refine wm ?_
  refine WL.nil ?_
  refine kg (hK_7' [(0, zP pb), (6, zI 6), (38, Value.iface 74 (Value.agg [zI p0, st s0].toArray))] _ ?_)
  refine b8 ?_
  refine a7 (fun _ hK_8' => ?_)
  refine a6 ?_
  refine wv (OV.assertNo (t2 := 74) (v := Value.agg [zI p0, st s0].toArray) rfl aag aax rfl) ?_
  refine wv (OV.extract 1 rfl rfl) ?_
  refine wv (OV.extract 0 rfl rfl) ?_
  refine WL.nil ?_
  refine kg (hK_8' [(0, zP pb), (6, zI 6), (38, Value.iface 74 (Value.agg [zI p0, st s0].toArray)), (40, zB false), (41, Value.agg [zI 0, st []].toArray)] _ ?_)
  refine d7 rfl ?_
  refine a7 (fun _ hK_9' => ?_)
  refine a6 ?_
  refine wv (OV.assertNo (t2 := 74) (v := Value.agg [zI p0, st s0].toArray) rfl aa2 abi rfl) ?_
  refine wv (OV.extract 1 rfl rfl) ?_
  refine wv (OV.extract 0 rfl rfl) ?_
  refine WL.nil ?_
  refine kg (hK_9' [(0, zP pb), (6, zI 6), (38, Value.iface 74 (Value.agg [zI p0, st s0].toArray)), (49, zB false), (50, Value.agg [zI 0, st []].toArray)] _ ?_)
  refine d7 rfl ?_
  refine a7 (fun _ hK_10' => ?_)
  refine a6 ?_
  refine wv (OV.assertYes (t' := 74) (v := Value.agg [zI p0, st s0].toArray) rfl abt) ?_
  refine wv (OV.extract 1 rfl rfl) ?_
  refine wv (OV.extract 0 rfl rfl) ?_
  refine WL.nil ?_
  refine kg (hK_10' [(0, zP pb), (6, zI 6), (38, Value.iface 74 (Value.agg [zI p0, st s0].toArray)), (59, zB true), (60, Value.agg [zI p0, st s0].toArray)] _ ?_)
  refine h8 rfl ?_
  refine a7 (fun _ hK_11' => ?_)
  refine a6 ?_
  refine WL.make (MV.alloc amo) rfl rfl rfl (fun b => ?_)
  refine WL.storeW (vs := [zI p0, st s0]) 0 rfl rfl rfl rfl rfl ang rfl rfl rfl ?_
  refine WL.nil ?_
  refine kg (hK_11' [(0, zP pb), (11, zP b)] _ ?_)
  refine n4 7 [] j3 (by kernel_rfl) rfl (fun T hT => ?_)
  refine fv (fun _ => OV.move rfl) ?_
  refine fv (fun _ => OV.nilCheck rfl) ?_
  refine fv (fun _ => OV.fieldAddr0 rfl f9) ?_
  refine fv (fun _ => OV.fieldAddr0 rfl ah5) ?_
  refine fv (fun _ => OV.load rfl (At.own 0 rfl) rfl c6) ?_
  obtain ⟨o_1', h⟩ := h
  refine fv (fun _ => OV.cat rfl rfl o_1') ?_
  obtain ⟨o_2', h⟩ := h
  refine fv (fun _ => OV.cat rfl rfl o_2') ?_
  refine FL.weak (L' := fun γ => [(63, zP pb), (67, st ((([47] : List UInt8) ++ s0) ++ ([47] : List UInt8)))]) (fun γ => ⟨rfl, rfl, trivial⟩) (FL.nil (hT (fun γ => [(63, zP pb), (67, st ((([47] : List UInt8) ++ s0) ++ ([47] : List UInt8)))]) (fun γ => ?_)))
  obtain ⟨o_3', h⟩ := h
  refine WL.pick (H' := [bld 90 5 pb bl, HA.blk b (.cells [zI p0, st s0].toArray 74 (0, 0))]) [1, 0] rfl rfl ?_
  refine WL.call k9 rfl (f0 pb bl ((([47] : List UInt8) ++ s0) ++ ([47] : List UInt8)) o_3') rfl trivial rfl rfl ?_
  refine WL.nil ?_
  exact hE.norm (abw [0] rfl rfl (.inl ⟨_, h, rfl⟩) (e9.none rfl))
 ·skip
  refine a7 (fun _ hK_12' => ?_)
  refine a6 ?_
  refine wm ?_
  refine WL.nil ?_
  refine kg (hK_12' [(0, zP pb), (1, Value.iface 74 (Value.agg [zI p0, st s0].toArray)), (2, zI need), (6, zI 6), (18, Value.iface 74 (Value.agg [zI p0, st s0].toArray))] _ ?_)
  refine b8 ?_
  refine a7 (fun _ hK_13' => ?_)
  refine a6 ?_
  refine wv (OV.assertNo (t2 := 74) (v := Value.agg [zI p0, st s0].toArray) rfl s6 aa1 rfl) ?_
  refine wv (OV.extract 1 rfl rfl) ?_
  refine wv (OV.extract 0 rfl rfl) ?_
  refine WL.nil ?_
  refine kg (hK_13' [(0, zP pb), (1, Value.iface 74 (Value.agg [zI p0, st s0].toArray)), (2, zI need), (6, zI 6), (18, Value.iface 74 (Value.agg [zI p0, st s0].toArray)), (20, zB false), (21, Value.agg [zI 0, st [], Value.nilIface, Value.nilIface].toArray)] _ ?_)
  refine d7 rfl ?_
  refine a7 (fun _ hK_14' => ?_)
  refine a6 ?_
  refine wv (OV.assertNo (t2 := 74) (v := Value.agg [zI p0, st s0].toArray) rfl s5 aaz rfl) ?_
  refine wv (OV.extract 1 rfl rfl) ?_
  refine wv (OV.extract 0 rfl rfl) ?_
  refine WL.nil ?_
  refine kg (hK_14' [(0, zP pb), (1, Value.iface 74 (Value.agg [zI p0, st s0].toArray)), (2, zI need), (6, zI 6), (26, zB false), (27, Value.agg [zI 0, st [], Value.nilIface].toArray)] _ ?_)
  refine d7 rfl ?_
  refine b7 ?_
  exact kh (hK_4' () h) [0]
def ac6 (te : TypeId) (fre : Nat × Nat) (B : List (Nat × Obj)) (bl : List UInt8) (_ : Int) (u1 : Value) (need : Int) (x1 : Ex) (K : (List UInt8) → Prop) : Prop :=
 ∃ (J0 : Prop),
  (∀ (_ : Unit), J0 →
   ((decide (6 < need)) = false) ∧
   (u1.oneCell' = true) ∧
   (bl.length + ([123] : List UInt8).length ≤ 140737488355328) ∧
   (v6 B te fre u1 x1) ∧
   (y5 (bl ++ ([123] : List UInt8)) (0 : Int) x1) ∧
   (((bl ++ ([123] : List UInt8)) ++ f7 x1 (0 : Int)).length + ([125] : List UInt8).length ≤ 140737488355328) ∧
   K (((bl ++ ([123] : List UInt8)) ++ f7 x1 (0 : Int)) ++ ([125] : List UInt8))) ∧
  J0
theorem ajy (pb : Nat) (te : TypeId) (fre : Nat × Nat) (B : List (Nat × Obj)) (bl : List UInt8) (p0 : Int) (u1 : Value) (need : Int) (x1 : Ex) (K : (List UInt8) → Prop) (h : ac6 te fre B bl p0 u1 need x1 K) :
  d9 Tryd.prog 31 [zP pb, Value.iface 76 (Value.agg [zI p0, u1].toArray), zI need] (B ++ [(0, .cells [st ([124] : List UInt8), st ([38, 45] : List UInt8), st ([62, 62] : List UInt8), st ([126] : List UInt8), st ([46] : List UInt8)].toArray te fre)]) [bld 90 5 pb bl] (fun o => (∃ (d : List UInt8), K d ∧ o = .ret (Value.tuple #[]) [bld 90 5 pb d]) ∨ (False)) := by
 unfold ac6 at h
 refine p7 (n := 151) (L0 := [(0, zP pb), (1, Value.iface 76 (Value.agg [zI p0, u1].toArray)), (2, zI need)]) Tryd.func31 rfl rfl rfl rfl (fun w0 M Q hE => ?_)
 refine a7 (fun _ hK => ?_)
 refine a6 ?_
 refine wA ?_
 refine WL.nil ?_
 refine kg (hK [(0, zP pb), (1, Value.iface 76 (Value.agg [zI p0, u1].toArray)), (2, zI need), (6, zI 6)] _ ?_)
 obtain ⟨J0, hJ, h⟩ := h
 refine p5 (X := Unit) (fun _ => J0) (fun _ => [(0, zP pb), (1, Value.iface 76 (Value.agg [zI p0, u1].toArray)), (2, zI need), (6, zI 6)]) (fun _ => [bld 90 5 pb bl]) ?_ (fun K0_4' hK_4' => ?_)
 ·rintro _ hj
  replace h := hJ () hj
  show WC _ _ _ _ [(0, zP pb), (1, Value.iface 76 (Value.agg [zI p0, u1].toArray)), (2, zI need), (6, zI 6)] [bld 90 5 pb bl]
  refine a7 (fun _ hK_5' => ?_)
  refine a7 (fun _ hK_6' => ?_)
  refine a6 ?_
  refine wm ?_
  refine wm ?_
  refine wv (OV.lss rfl rfl) ?_
  refine WL.nil ?_
  refine kg (hK_6' [(0, zP pb), (1, Value.iface 76 (Value.agg [zI p0, u1].toArray)), (6, zI 6), (30, zB (decide (6 < need)))] _ ?_)
  obtain ⟨o, h⟩ := h
  refine b5 (b := decide (6 < need)) rfl (fun hb => ?_) (fun hb => ?_)
  ·rw [o] at hb; cases hb
  refine b7 ?_
  refine kg (hK_5' [(0, zP pb), (1, Value.iface 76 (Value.agg [zI p0, u1].toArray)), (6, zI 6)] _ ?_)
  refine a7 (fun _ hK_7' => ?_)
  refine a6 ?_
  refine wm ?_
  refine WL.nil ?_
  refine kg (hK_7' [(0, zP pb), (6, zI 6), (38, Value.iface 76 (Value.agg [zI p0, u1].toArray))] _ ?_)
  refine b8 ?_
  refine a7 (fun _ hK_8' => ?_)
  refine a6 ?_
  refine wv (OV.assertNo (t2 := 76) (v := Value.agg [zI p0, u1].toArray) rfl aag aax rfl) ?_
  refine wv (OV.extract 1 rfl rfl) ?_
  refine wv (OV.extract 0 rfl rfl) ?_
  refine WL.nil ?_
  refine kg (hK_8' [(0, zP pb), (6, zI 6), (38, Value.iface 76 (Value.agg [zI p0, u1].toArray)), (40, zB false), (41, Value.agg [zI 0, st []].toArray)] _ ?_)
  refine d7 rfl ?_
  refine a7 (fun _ hK_9' => ?_)
  refine a6 ?_
  refine wv (OV.assertNo (t2 := 76) (v := Value.agg [zI p0, u1].toArray) rfl aa2 abi rfl) ?_
  refine wv (OV.extract 1 rfl rfl) ?_
  refine wv (OV.extract 0 rfl rfl) ?_
  refine WL.nil ?_
  refine kg (hK_9' [(0, zP pb), (6, zI 6), (38, Value.iface 76 (Value.agg [zI p0, u1].toArray)), (49, zB false), (50, Value.agg [zI 0, st []].toArray)] _ ?_)
  refine d7 rfl ?_
  refine a7 (fun _ hK_10' => ?_)
  refine a6 ?_
  refine wv (OV.assertNo (t2 := 76) (v := Value.agg [zI p0, u1].toArray) rfl abt acf rfl) ?_
  refine wv (OV.extract 1 rfl rfl) ?_
  refine wv (OV.extract 0 rfl rfl) ?_
  refine WL.nil ?_
  refine kg (hK_10' [(0, zP pb), (6, zI 6), (38, Value.iface 76 (Value.agg [zI p0, u1].toArray)), (59, zB false), (60, Value.agg [zI 0, st []].toArray)] _ ?_)
  refine d7 rfl ?_
  refine a7 (fun _ hK_11' => ?_)
  refine a6 ?_
  refine wv (OV.assertYes (t' := 76) (v := Value.agg [zI p0, u1].toArray) rfl aco) ?_
  refine wv (OV.extract 1 rfl rfl) ?_
  refine wv (OV.extract 0 rfl rfl) ?_
  refine WL.nil ?_
  refine kg (hK_11' [(0, zP pb), (6, zI 6), (38, Value.iface 76 (Value.agg [zI p0, u1].toArray)), (70, zB true), (71, Value.agg [zI p0, u1].toArray)] _ ?_)
  refine h8 rfl ?_
  refine a7 (fun _ hK_12' => ?_)
  refine a6 ?_
  refine WL.make (MV.alloc ana) rfl rfl rfl (fun b => ?_)
  obtain ⟨o_1', h⟩ := h
  refine WL.storeW (vs := [zI p0, u1]) 0 rfl rfl rfl rfl rfl am6 rfl (f8 rfl (f8 o_1' x5)) rfl ?_
  refine WL.nil ?_
  refine kg (hK_12' [(0, zP pb), (12, zP b)] _ ?_)
  refine a7 (fun _ hK_13' => ?_)
  refine a6 ?_
  refine wm ?_
  refine wv (OV.nilCheck rfl) ?_
  refine wv (OV.fieldAddr0 rfl f9) ?_
  obtain ⟨o_2', h⟩ := h
  refine WL.pick (H' := [bld 90 5 pb bl, HA.blk b (.cells [zI p0, u1].toArray 76 (0, 0))]) [1, 0] rfl rfl ?_
  refine WL.call k9 rfl (f0 pb bl ([123] : List UInt8) o_2') rfl trivial rfl rfl ?_
  refine WL.nil ?_
  refine kg (hK_13' [(0, zP pb), (12, zP b)] _ ?_)
  refine a7 (fun _ hK_14' => ?_)
  refine a6 ?_
  refine wm ?_
  refine wv (OV.fieldAddr0 rfl ais) ?_
  refine wv (OV.load rfl (At.own 1 rfl) rfl o9) ?_
  obtain ⟨o_3', h⟩ := h
  obtain ⟨o_4', h⟩ := h
  refine WL.call u4 rfl (o_3' pb (bl ++ ([123] : List UInt8)) (0 : Int) o_4') rfl (ROk.of (fun _ h => h)) rfl rfl ?_
  refine WL.nil ?_
  refine kg (hK_14' [(0, zP pb)] _ ?_)
  refine a6 ?_
  refine wm ?_
  refine wv (OV.nilCheck rfl) ?_
  refine wv (OV.fieldAddr0 rfl f9) ?_
  obtain ⟨o_5', h⟩ := h
  refine WL.call k9 rfl (f0 pb ((bl ++ ([123] : List UInt8)) ++ f7 x1 (0 : Int)) ([125] : List UInt8) o_5') rfl trivial rfl rfl ?_
  refine WL.nil ?_
  exact hE.norm (abw [0] rfl rfl (.inl ⟨_, h, rfl⟩) (e9.none rfl))
 ·skip
  refine a7 (fun _ hK_15' => ?_)
  refine a6 ?_
  refine wm ?_
  refine WL.nil ?_
  refine kg (hK_15' [(0, zP pb), (1, Value.iface 76 (Value.agg [zI p0, u1].toArray)), (2, zI need), (6, zI 6), (18, Value.iface 76 (Value.agg [zI p0, u1].toArray))] _ ?_)
  refine b8 ?_
  refine a7 (fun _ hK_16' => ?_)
  refine a6 ?_
  refine wv (OV.assertNo (t2 := 76) (v := Value.agg [zI p0, u1].toArray) rfl s6 aa1 rfl) ?_
  refine wv (OV.extract 1 rfl rfl) ?_
  refine wv (OV.extract 0 rfl rfl) ?_
  refine WL.nil ?_
  refine kg (hK_16' [(0, zP pb), (1, Value.iface 76 (Value.agg [zI p0, u1].toArray)), (2, zI need), (6, zI 6), (18, Value.iface 76 (Value.agg [zI p0, u1].toArray)), (20, zB false), (21, Value.agg [zI 0, st [], Value.nilIface, Value.nilIface].toArray)] _ ?_)
  refine d7 rfl ?_
  refine a7 (fun _ hK_17' => ?_)
  refine a6 ?_
  refine wv (OV.assertNo (t2 := 76) (v := Value.agg [zI p0, u1].toArray) rfl s5 aaz rfl) ?_
  refine wv (OV.extract 1 rfl rfl) ?_
  refine wv (OV.extract 0 rfl rfl) ?_
  refine WL.nil ?_
  refine kg (hK_17' [(0, zP pb), (1, Value.iface 76 (Value.agg [zI p0, u1].toArray)), (2, zI need), (6, zI 6), (26, zB false), (27, Value.agg [zI 0, st [], Value.nilIface].toArray)] _ ?_)
  refine d7 rfl ?_
  refine b7 ?_
  exact kh (hK_4' () h) [0]
def acy (te : TypeId) (fre : Nat × Nat) (B : List (Nat × Obj)) (bl : List UInt8) (_ : Int) (s0 : List UInt8) (u1 : Value) (need : Int) (x1 : Ex) (K : (List UInt8) → Prop) : Prop :=
 ∃ (J0 : Prop),
  (∀ (_ : Unit), J0 →
   ((decide (5 < need)) = false) ∧
   (u1.oneCell' = true) ∧
   (v6 B te fre u1 x1) ∧
   (y5 bl (5 : Int) x1) ∧
   ((bl ++ f7 x1 (5 : Int)).length + s0.length ≤ 140737488355328) ∧
   K ((bl ++ f7 x1 (5 : Int)) ++ s0)) ∧
  (u1.oneCell' = true) ∧
  J0
theorem ajx (pb : Nat) (te : TypeId) (fre : Nat × Nat) (B : List (Nat × Obj)) (bl : List UInt8) (p0 : Int) (s0 : List UInt8) (u1 : Value) (need : Int) (x1 : Ex) (K : (List UInt8) → Prop) (h : acy te fre B bl p0 s0 u1 need x1 K) :
  d9 Tryd.prog 31 [zP pb, Value.iface 78 (Value.agg [zI p0, st s0, u1].toArray), zI need] (B ++ [(0, .cells [st ([124] : List UInt8), st ([38, 45] : List UInt8), st ([62, 62] : List UInt8), st ([126] : List UInt8), st ([46] : List UInt8)].toArray te fre)]) [bld 90 5 pb bl] (fun o => (∃ (d : List UInt8), K d ∧ o = .ret (Value.tuple #[]) [bld 90 5 pb d]) ∨ (False)) := by
 unfold acy at h
 refine p7 (n := 151) (L0 := [(0, zP pb), (1, Value.iface 78 (Value.agg [zI p0, st s0, u1].toArray)), (2, zI need)]) Tryd.func31 rfl rfl rfl rfl (fun w0 M Q hE => ?_)
 refine a7 (fun _ hK => ?_)
 refine a6 ?_
 refine wA ?_
 refine WL.nil ?_
 refine kg (hK [(0, zP pb), (1, Value.iface 78 (Value.agg [zI p0, st s0, u1].toArray)), (2, zI need), (6, zI 6)] _ ?_)
 obtain ⟨J0, hJ, h⟩ := h
 refine p5 (X := Unit) (fun _ => J0) (fun _ => [(0, zP pb), (1, Value.iface 78 (Value.agg [zI p0, st s0, u1].toArray)), (2, zI need), (6, zI 5)]) (fun _ => [bld 90 5 pb bl]) ?_ (fun K0_5' hK_5' => ?_)
 ·rintro _ hj
  replace h := hJ () hj
  show WC _ _ _ _ [(0, zP pb), (1, Value.iface 78 (Value.agg [zI p0, st s0, u1].toArray)), (2, zI need), (6, zI 5)] [bld 90 5 pb bl]
  refine a7 (fun _ hK_6' => ?_)
  refine a7 (fun _ hK_7' => ?_)
  refine a6 ?_
  refine wm ?_
  refine wm ?_
  refine wv (OV.lss rfl rfl) ?_
  refine WL.nil ?_
  refine kg (hK_7' [(0, zP pb), (1, Value.iface 78 (Value.agg [zI p0, st s0, u1].toArray)), (6, zI 5), (30, zB (decide (5 < need)))] _ ?_)
  obtain ⟨o_1', h⟩ := h
  refine b5 (b := decide (5 < need)) rfl (fun hb => ?_) (fun hb => ?_)
  ·rw [o_1'] at hb; cases hb
  refine b7 ?_
  refine kg (hK_6' [(0, zP pb), (1, Value.iface 78 (Value.agg [zI p0, st s0, u1].toArray)), (6, zI 5)] _ ?_)
  refine a7 (fun _ hK_8' => ?_)
  refine a6 ?_
  refine wm ?_
  refine WL.nil ?_
  refine kg (hK_8' [(0, zP pb), (6, zI 5), (38, Value.iface 78 (Value.agg [zI p0, st s0, u1].toArray))] _ ?_)
  refine b8 ?_
  refine a7 (fun _ hK_9' => ?_)
  refine a6 ?_
  refine wv (OV.assertNo (t2 := 78) (v := Value.agg [zI p0, st s0, u1].toArray) rfl aag aax rfl) ?_
  refine wv (OV.extract 1 rfl rfl) ?_
  refine wv (OV.extract 0 rfl rfl) ?_
  refine WL.nil ?_
  refine kg (hK_9' [(0, zP pb), (6, zI 5), (38, Value.iface 78 (Value.agg [zI p0, st s0, u1].toArray)), (40, zB false), (41, Value.agg [zI 0, st []].toArray)] _ ?_)
  refine d7 rfl ?_
  refine a7 (fun _ hK_10' => ?_)
  refine a6 ?_
  refine wv (OV.assertNo (t2 := 78) (v := Value.agg [zI p0, st s0, u1].toArray) rfl aa2 abi rfl) ?_
  refine wv (OV.extract 1 rfl rfl) ?_
  refine wv (OV.extract 0 rfl rfl) ?_
  refine WL.nil ?_
  refine kg (hK_10' [(0, zP pb), (6, zI 5), (38, Value.iface 78 (Value.agg [zI p0, st s0, u1].toArray)), (49, zB false), (50, Value.agg [zI 0, st []].toArray)] _ ?_)
  refine d7 rfl ?_
  refine a7 (fun _ hK_11' => ?_)
  refine a6 ?_
  refine wv (OV.assertNo (t2 := 78) (v := Value.agg [zI p0, st s0, u1].toArray) rfl abt acf rfl) ?_
  refine wv (OV.extract 1 rfl rfl) ?_
  refine wv (OV.extract 0 rfl rfl) ?_
  refine WL.nil ?_
  refine kg (hK_11' [(0, zP pb), (6, zI 5), (38, Value.iface 78 (Value.agg [zI p0, st s0, u1].toArray)), (59, zB false), (60, Value.agg [zI 0, st []].toArray)] _ ?_)
  refine d7 rfl ?_
  refine a7 (fun _ hK_12' => ?_)
  refine a6 ?_
  refine wv (OV.assertNo (t2 := 78) (v := Value.agg [zI p0, st s0, u1].toArray) rfl aco ad0 rfl) ?_
  refine wv (OV.extract 1 rfl rfl) ?_
  refine wv (OV.extract 0 rfl rfl) ?_
  refine WL.nil ?_
  refine kg (hK_12' [(0, zP pb), (6, zI 5), (38, Value.iface 78 (Value.agg [zI p0, st s0, u1].toArray)), (70, zB false), (71, Value.agg [zI 0, Value.nilIface].toArray)] _ ?_)
  refine d7 rfl ?_
  refine a7 (fun _ hK_13' => ?_)
  refine a6 ?_
  refine wv (OV.assertYes (t' := 78) (v := Value.agg [zI p0, st s0, u1].toArray) rfl s5) ?_
  refine wv (OV.extract 1 rfl rfl) ?_
  refine wv (OV.extract 0 rfl rfl) ?_
  refine WL.nil ?_
  refine kg (hK_13' [(0, zP pb), (6, zI 5), (38, Value.iface 78 (Value.agg [zI p0, st s0, u1].toArray)), (85, zB true), (86, Value.agg [zI p0, st s0, u1].toArray)] _ ?_)
  refine h8 rfl ?_
  refine a7 (fun _ hK_14' => ?_)
  refine a6 ?_
  refine WL.make (MV.alloc acs) rfl rfl rfl (fun b_1' => ?_)
  obtain ⟨o_2', h⟩ := h
  refine WL.storeW (vs := [zI p0, st s0, u1]) 0 rfl rfl rfl rfl rfl acz rfl (f8 rfl (f8 rfl (f8 o_2' x5))) rfl ?_
  refine WL.nil ?_
  refine kg (hK_14' [(0, zP pb), (13, zP b_1')] _ ?_)
  refine a7 (fun _ hK_15' => ?_)
  refine a6 ?_
  refine wm ?_
  refine wv (OV.fieldAddr0 rfl ael) ?_
  refine wv (OV.load rfl (At.own 0 rfl) rfl o9) ?_
  obtain ⟨o_3', h⟩ := h
  obtain ⟨o_4', h⟩ := h
  refine WL.pick (H' := [bld 90 5 pb bl, HA.blk b_1' (.cells [zI p0, st s0, u1].toArray 78 (0, 0))]) [1, 0] rfl rfl ?_
  refine WL.call u4 rfl (o_3' pb bl (5 : Int) o_4') rfl (ROk.of (fun _ h => h)) rfl rfl ?_
  refine WL.nil ?_
  refine kg (hK_15' [(0, zP pb), (13, zP b_1')] _ ?_)
  refine n4 5 [] j3 (by kernel_rfl) rfl (fun T hT => ?_)
  refine fv (fun _ => OV.move rfl) ?_
  refine fv (fun _ => OV.nilCheck rfl) ?_
  refine fv (fun _ => OV.fieldAddr0 rfl f9) ?_
  refine fv (fun _ => OV.fieldAddr0 rfl aeh) ?_
  refine fv (fun _ => OV.load rfl (At.own 1 rfl) rfl c6) ?_
  refine FL.weak (L' := fun γ => [(93, zP pb), (95, st s0)]) (fun γ => ⟨rfl, rfl, trivial⟩) (FL.nil (hT (fun γ => [(93, zP pb), (95, st s0)]) (fun γ => ?_)))
  obtain ⟨o_5', h⟩ := h
  refine WL.call k9 rfl (f0 pb (bl ++ f7 x1 (5 : Int)) s0 o_5') rfl trivial rfl rfl ?_
  refine WL.nil ?_
  exact hE.norm (abw [0] rfl rfl (.inl ⟨_, h, rfl⟩) (e9.none rfl))
 ·skip
  refine a7 (fun _ hK_16' => ?_)
  refine a6 ?_
  refine wm ?_
  refine WL.nil ?_
  refine kg (hK_16' [(0, zP pb), (1, Value.iface 78 (Value.agg [zI p0, st s0, u1].toArray)), (2, zI need), (6, zI 6), (18, Value.iface 78 (Value.agg [zI p0, st s0, u1].toArray))] _ ?_)
  refine b8 ?_
  refine a7 (fun _ hK_17' => ?_)
  refine a6 ?_
  refine wv (OV.assertNo (t2 := 78) (v := Value.agg [zI p0, st s0, u1].toArray) rfl s6 aa1 rfl) ?_
  refine wv (OV.extract 1 rfl rfl) ?_
  refine wv (OV.extract 0 rfl rfl) ?_
  refine WL.nil ?_
  refine kg (hK_17' [(0, zP pb), (1, Value.iface 78 (Value.agg [zI p0, st s0, u1].toArray)), (2, zI need), (6, zI 6), (18, Value.iface 78 (Value.agg [zI p0, st s0, u1].toArray)), (20, zB false), (21, Value.agg [zI 0, st [], Value.nilIface, Value.nilIface].toArray)] _ ?_)
  refine d7 rfl ?_
  refine a7 (fun _ hK_18' => ?_)
  refine a6 ?_
  refine wv (OV.assertYes (t' := 78) (v := Value.agg [zI p0, st s0, u1].toArray) rfl s5) ?_
  refine wv (OV.extract 1 rfl rfl) ?_
  refine wv (OV.extract 0 rfl rfl) ?_
  refine WL.nil ?_
  refine kg (hK_18' [(0, zP pb), (1, Value.iface 78 (Value.agg [zI p0, st s0, u1].toArray)), (2, zI need), (6, zI 6), (26, zB true), (27, Value.agg [zI p0, st s0, u1].toArray)] _ ?_)
  refine h8 rfl ?_
  refine a7 (fun _ hK_19' => ?_)
  refine a6 ?_
  refine WL.make (MV.alloc acs) rfl rfl rfl (fun b_2' => ?_)
  obtain ⟨o_6', h⟩ := h
  refine WL.storeW (vs := [zI p0, st s0, u1]) 0 rfl rfl rfl rfl rfl acz rfl (f8 rfl (f8 rfl (f8 o_6' x5))) rfl ?_
  refine WL.nil ?_
  refine kg (hK_19' [(0, zP pb), (1, Value.iface 78 (Value.agg [zI p0, st s0, u1].toArray)), (2, zI need)] _ ?_)
  refine a6 ?_
  refine wA ?_
  refine WL.nil ?_
  exact kh (hK_5' () h) [1]
def aca (te : TypeId) (fre : Nat × Nat) (B : List (Nat × Obj)) (bl : List UInt8) (_ : Int) (s0 : List UInt8) (u1 : Value) (u2 : Value) (need : Int) (x1 : Ex) (x2 : Ex) (K : (List UInt8) → Prop) : Prop :=
 ∃ (J0 : Prop),
  (∀ (_ : Unit), J0 →
   ((decide (d8 s0 < need)) = false) ∧
   (u1.oneCell' = true) ∧
   (u2.oneCell' = true) ∧
   (v6 B te fre u1 x1) ∧
   (y5 bl (d8 s0) x1) ∧
   (([32] : List UInt8).length + s0.length ≤ 9223372036854775807) ∧
   ((([32] : List UInt8) ++ s0).length + ([32] : List UInt8).length ≤ 9223372036854775807) ∧
   ((bl ++ f7 x1 (d8 s0)).length + ((([32] : List UInt8) ++ s0) ++ ([32] : List UInt8)).length ≤ 140737488355328) ∧
   (I64 ((d8 s0) + 1)) ∧
   (v6 B te fre u2 x2) ∧
   (y5 ((bl ++ f7 x1 (d8 s0)) ++ ((([32] : List UInt8) ++ s0) ++ ([32] : List UInt8))) ((d8 s0) + 1) x2) ∧
   K (((bl ++ f7 x1 (d8 s0)) ++ ((([32] : List UInt8) ++ s0) ++ ([32] : List UInt8))) ++ f7 x2 ((d8 s0) + 1))) ∧
  (u1.oneCell' = true) ∧
  (u2.oneCell' = true) ∧
  (aci s0) ∧
  J0
theorem ah6 (pb : Nat) (te : TypeId) (fre : Nat × Nat) (B : List (Nat × Obj)) (bl : List UInt8) (p0 : Int) (s0 : List UInt8) (u1 : Value) (u2 : Value) (need : Int) (x1 : Ex) (x2 : Ex) (K : (List UInt8) → Prop) (h : aca te fre B bl p0 s0 u1 u2 need x1 x2 K) :
  d9 Tryd.prog 31 [zP pb, Value.iface 80 (Value.agg [zI p0, st s0, u1, u2].toArray), zI need] (B ++ [(0, .cells [st ([124] : List UInt8), st ([38, 45] : List UInt8), st ([62, 62] : List UInt8), st ([126] : List UInt8), st ([46] : List UInt8)].toArray te fre)]) [bld 90 5 pb bl] (fun o => (∃ (d : List UInt8), K d ∧ o = .ret (Value.tuple #[]) [bld 90 5 pb d]) ∨ (False)) := by
 unfold aca at h
 refine p7 (n := 151) (L0 := [(0, zP pb), (1, Value.iface 80 (Value.agg [zI p0, st s0, u1, u2].toArray)), (2, zI need)]) Tryd.func31 rfl rfl rfl rfl (fun w0 M Q hE => ?_)
 refine a7 (fun _ hK => ?_)
 refine a6 ?_
 refine wA ?_
 refine WL.nil ?_
 refine kg (hK [(0, zP pb), (1, Value.iface 80 (Value.agg [zI p0, st s0, u1, u2].toArray)), (2, zI need), (6, zI 6)] _ ?_)
 obtain ⟨J0, hJ, h⟩ := h
 refine p5 (X := Unit) (fun _ => J0) (fun _ => [(0, zP pb), (1, Value.iface 80 (Value.agg [zI p0, st s0, u1, u2].toArray)), (2, zI need), (6, zI (d8 s0))]) (fun _ => [bld 90 5 pb bl]) ?_ (fun K0_4' hK_4' => ?_)
 ·rintro _ hj
  replace h := hJ () hj
  show WC _ _ _ _ [(0, zP pb), (1, Value.iface 80 (Value.agg [zI p0, st s0, u1, u2].toArray)), (2, zI need), (6, zI (d8 s0))] [bld 90 5 pb bl]
  refine a7 (fun _ hK_5' => ?_)
  refine a7 (fun _ hK_6' => ?_)
  refine a6 ?_
  refine wm ?_
  refine wm ?_
  refine wv (OV.lss rfl rfl) ?_
  refine WL.nil ?_
  refine kg (hK_6' [(0, zP pb), (1, Value.iface 80 (Value.agg [zI p0, st s0, u1, u2].toArray)), (6, zI (d8 s0)), (30, zB (decide (d8 s0 < need)))] _ ?_)
  obtain ⟨o_3', h⟩ := h
  refine b5 (b := decide (d8 s0 < need)) rfl (fun hb => ?_) (fun hb => ?_)
  ·rw [o_3'] at hb; cases hb
  refine b7 ?_
  refine kg (hK_5' [(0, zP pb), (1, Value.iface 80 (Value.agg [zI p0, st s0, u1, u2].toArray)), (6, zI (d8 s0))] _ ?_)
  refine a7 (fun _ hK_7' => ?_)
  refine a6 ?_
  refine wm ?_
  refine WL.nil ?_
  refine kg (hK_7' [(0, zP pb), (6, zI (d8 s0)), (38, Value.iface 80 (Value.agg [zI p0, st s0, u1, u2].toArray))] _ ?_)
  refine b8 ?_
  refine a7 (fun _ hK_8' => ?_)
  refine a6 ?_
  refine wv (OV.assertNo (t2 := 80) (v := Value.agg [zI p0, st s0, u1, u2].toArray) rfl aag aax rfl) ?_
  refine wv (OV.extract 1 rfl rfl) ?_
  refine wv (OV.extract 0 rfl rfl) ?_
  refine WL.nil ?_
  refine kg (hK_8' [(0, zP pb), (6, zI (d8 s0)), (38, Value.iface 80 (Value.agg [zI p0, st s0, u1, u2].toArray)), (40, zB false), (41, Value.agg [zI 0, st []].toArray)] _ ?_)
  refine d7 rfl ?_
  refine a7 (fun _ hK_9' => ?_)
  refine a6 ?_
  refine wv (OV.assertNo (t2 := 80) (v := Value.agg [zI p0, st s0, u1, u2].toArray) rfl aa2 abi rfl) ?_
  refine wv (OV.extract 1 rfl rfl) ?_
  refine wv (OV.extract 0 rfl rfl) ?_
  refine WL.nil ?_
  refine kg (hK_9' [(0, zP pb), (6, zI (d8 s0)), (38, Value.iface 80 (Value.agg [zI p0, st s0, u1, u2].toArray)), (49, zB false), (50, Value.agg [zI 0, st []].toArray)] _ ?_)
  refine d7 rfl ?_
  refine a7 (fun _ hK_10' => ?_)
  refine a6 ?_
  refine wv (OV.assertNo (t2 := 80) (v := Value.agg [zI p0, st s0, u1, u2].toArray) rfl abt acf rfl) ?_
  refine wv (OV.extract 1 rfl rfl) ?_
  refine wv (OV.extract 0 rfl rfl) ?_
  refine WL.nil ?_
  refine kg (hK_10' [(0, zP pb), (6, zI (d8 s0)), (38, Value.iface 80 (Value.agg [zI p0, st s0, u1, u2].toArray)), (59, zB false), (60, Value.agg [zI 0, st []].toArray)] _ ?_)
  refine d7 rfl ?_
  refine a7 (fun _ hK_11' => ?_)
  refine a6 ?_
  refine wv (OV.assertNo (t2 := 80) (v := Value.agg [zI p0, st s0, u1, u2].toArray) rfl aco ad0 rfl) ?_
  refine wv (OV.extract 1 rfl rfl) ?_
  refine wv (OV.extract 0 rfl rfl) ?_
  refine WL.nil ?_
  refine kg (hK_11' [(0, zP pb), (6, zI (d8 s0)), (38, Value.iface 80 (Value.agg [zI p0, st s0, u1, u2].toArray)), (70, zB false), (71, Value.agg [zI 0, Value.nilIface].toArray)] _ ?_)
  refine d7 rfl ?_
  refine a7 (fun _ hK_12' => ?_)
  refine a6 ?_
  refine wv (OV.assertNo (t2 := 80) (v := Value.agg [zI p0, st s0, u1, u2].toArray) rfl s5 aaz rfl) ?_
  refine wv (OV.extract 1 rfl rfl) ?_
  refine wv (OV.extract 0 rfl rfl) ?_
  refine WL.nil ?_
  refine kg (hK_12' [(0, zP pb), (6, zI (d8 s0)), (38, Value.iface 80 (Value.agg [zI p0, st s0, u1, u2].toArray)), (85, zB false), (86, Value.agg [zI 0, st [], Value.nilIface].toArray)] _ ?_)
  refine d7 rfl ?_
  refine a7 (fun _ hK_13' => ?_)
  refine a6 ?_
  refine wv (OV.assertYes (t' := 80) (v := Value.agg [zI p0, st s0, u1, u2].toArray) rfl s6) ?_
  refine wv (OV.extract 1 rfl rfl) ?_
  refine wv (OV.extract 0 rfl rfl) ?_
  refine WL.nil ?_
  refine kg (hK_13' [(0, zP pb), (6, zI (d8 s0)), (38, Value.iface 80 (Value.agg [zI p0, st s0, u1, u2].toArray)), (98, zB true), (99, Value.agg [zI p0, st s0, u1, u2].toArray)] _ ?_)
  refine h8 rfl ?_
  refine a7 (fun _ hK_14' => ?_)
  refine a6 ?_
  refine WL.make (MV.alloc acv) rfl rfl rfl (fun b_1' => ?_)
  obtain ⟨o_4', h⟩ := h
  obtain ⟨o_5', h⟩ := h
  refine WL.storeW (vs := [zI p0, st s0, u1, u2]) 0 rfl rfl rfl rfl rfl act rfl (f8 rfl (f8 rfl (f8 o_4' (f8 o_5' x5)))) rfl ?_
  refine WL.nil ?_
  refine kg (hK_14' [(0, zP pb), (6, zI (d8 s0)), (14, zP b_1')] _ ?_)
  refine a7 (fun _ hK_15' => ?_)
  refine a6 ?_
  refine wm ?_
  refine wv (OV.fieldAddr0 rfl aei) ?_
  refine wv (OV.load rfl (At.own 0 rfl) rfl o9) ?_
  refine wm ?_
  obtain ⟨o_6', h⟩ := h
  obtain ⟨o_7', h⟩ := h
  refine WL.pick (H' := [bld 90 5 pb bl, HA.blk b_1' (.cells [zI p0, st s0, u1, u2].toArray 80 (0, 0))]) [1, 0] rfl rfl ?_
  refine WL.call u4 rfl (o_6' pb bl (d8 s0) o_7') rfl (ROk.of (fun _ h => h)) rfl rfl ?_
  refine WL.nil ?_
  refine kg (hK_15' [(0, zP pb), (6, zI (d8 s0)), (14, zP b_1')] _ ?_)
  refine a7 (fun _ hK_16' => ?_)
  refine n4 7 [] j3 (by kernel_rfl) rfl (fun T hT => ?_)
  refine fv (fun _ => OV.move rfl) ?_
  refine fv (fun _ => OV.nilCheck rfl) ?_
  refine fv (fun _ => OV.fieldAddr0 rfl f9) ?_
  refine fv (fun _ => OV.fieldAddr0 rfl aav) ?_
  refine fv (fun _ => OV.load rfl (At.own 1 rfl) rfl c6) ?_
  obtain ⟨o_8', h⟩ := h
  refine fv (fun _ => OV.cat rfl rfl o_8') ?_
  obtain ⟨o_9', h⟩ := h
  refine fv (fun _ => OV.cat rfl rfl o_9') ?_
  refine FL.weak (L' := fun γ => [(0, zP pb), (6, zI (d8 s0)), (14, zP b_1'), (107, zP pb), (111, st ((([32] : List UInt8) ++ s0) ++ ([32] : List UInt8)))]) (fun γ => ⟨rfl, rfl, rfl, rfl, rfl, trivial⟩) (FL.nil (hT (fun γ => [(0, zP pb), (6, zI (d8 s0)), (14, zP b_1'), (107, zP pb), (111, st ((([32] : List UInt8) ++ s0) ++ ([32] : List UInt8)))]) (fun γ => ?_)))
  obtain ⟨o_10', h⟩ := h
  refine WL.call k9 rfl (f0 pb (bl ++ f7 x1 (d8 s0)) ((([32] : List UInt8) ++ s0) ++ ([32] : List UInt8)) o_10') rfl trivial rfl rfl ?_
  refine WL.nil ?_
  refine kg (hK_16' [(0, zP pb), (6, zI (d8 s0)), (14, zP b_1')] _ ?_)
  refine a6 ?_
  refine wm ?_
  refine wv (OV.fieldAddr0 rfl aef) ?_
  refine wv (OV.load rfl (At.own 1 rfl) rfl o9) ?_
  refine wm ?_
  obtain ⟨o_11', h⟩ := h
  refine wv (OV.add rfl rfl o_11') ?_
  obtain ⟨o_12', h⟩ := h
  obtain ⟨o_13', h⟩ := h
  refine WL.call u4 rfl (o_12' pb ((bl ++ f7 x1 (d8 s0)) ++ ((([32] : List UInt8) ++ s0) ++ ([32] : List UInt8))) ((d8 s0) + 1) o_13') rfl (ROk.of (fun _ h => h)) rfl rfl ?_
  refine WL.nil ?_
  exact hE.norm (abw [0] rfl rfl (.inl ⟨_, h, rfl⟩) (e9.none rfl))
 ·skip
  refine a7 (fun _ hK_17' => ?_)
  refine a6 ?_
  refine wm ?_
  refine WL.nil ?_
  refine kg (hK_17' [(0, zP pb), (1, Value.iface 80 (Value.agg [zI p0, st s0, u1, u2].toArray)), (2, zI need), (6, zI 6), (18, Value.iface 80 (Value.agg [zI p0, st s0, u1, u2].toArray))] _ ?_)
  refine b8 ?_
  refine a7 (fun _ hK_18' => ?_)
  refine a6 ?_
  refine wv (OV.assertYes (t' := 80) (v := Value.agg [zI p0, st s0, u1, u2].toArray) rfl s6) ?_
  refine wv (OV.extract 1 rfl rfl) ?_
  refine wv (OV.extract 0 rfl rfl) ?_
  refine WL.nil ?_
  refine kg (hK_18' [(0, zP pb), (1, Value.iface 80 (Value.agg [zI p0, st s0, u1, u2].toArray)), (2, zI need), (6, zI 6), (18, Value.iface 80 (Value.agg [zI p0, st s0, u1, u2].toArray)), (20, zB true), (21, Value.agg [zI p0, st s0, u1, u2].toArray)] _ ?_)
  refine h8 rfl ?_
  refine a7 (fun _ hK_19' => ?_)
  refine a6 ?_
  refine WL.make (MV.alloc acv) rfl rfl rfl (fun b_2' => ?_)
  obtain ⟨o_14', h⟩ := h
  obtain ⟨o_15', h⟩ := h
  refine WL.storeW (vs := [zI p0, st s0, u1, u2]) 0 rfl rfl rfl rfl rfl act rfl (f8 rfl (f8 rfl (f8 o_14' (f8 o_15' x5)))) rfl ?_
  refine WL.nil ?_
  refine kg (hK_19' [(0, zP pb), (1, Value.iface 80 (Value.agg [zI p0, st s0, u1, u2].toArray)), (2, zI need), (7, zP b_2')] _ ?_)
  refine a6 ?_
  refine wv (OV.fieldAddr0 rfl aav) ?_
  refine wv (OV.load rfl (At.own 0 rfl) rfl c6) ?_
  obtain ⟨o_16', h⟩ := h
  refine WL.call (A := []) afu rfl (afs te fre s0 o_16') rfl ⟨.inr (List.mem_append_right _ (List.mem_of_getElem? (i := 0) rfl)), trivial⟩ rfl rfl ?_
  refine wA ?_
  refine WL.nil ?_
  exact kh (hK_4' () h) [1]
def ads (te : TypeId) (fre : Nat × Nat) (B : List (Nat × Obj)) (bl : List UInt8) (_ : Int) (s0 : List UInt8) (us : List Value) (need : Int) (xs : List Ex) (K : (List UInt8) → Prop) : Prop :=
 ∃ (J0 : Prop),
  (∀ (_ : Unit), J0 →
   ((decide (6 < need)) = false) ∧
   (s0.length + ([40] : List UInt8).length ≤ 9223372036854775807) ∧
   (bl.length + (s0 ++ ([40] : List UInt8)).length ≤ 140737488355328) ∧
   ∃ (Inv : Int → (List UInt8) → Prop) (mu : Int → (List UInt8) → Nat),
    Inv 0 (bl ++ (s0 ++ ([40] : List UInt8))) ∧ ∀ (t132_1' : Int) (c_2' : List UInt8), Inv t132_1' c_2' →
     (if (decide (t132_1' < (us.length : Int))) = true then
      (0 ≤ t132_1' ∧ t132_1' < (us.length : Int)) ∧
      ∃ (J0_3' : (List UInt8) → Prop),
       (∀ (c_3' : List UInt8), J0_3' c_3' →
        (v6 B te fre (us.getD (t132_1').toNat default) (xs.getD (t132_1').toNat default)) ∧
        (y5 c_3' (0 : Int) (xs.getD (t132_1').toNat default)) ∧
        (I64 (t132_1' + 1)) ∧
        Inv (t132_1' + 1) (c_3' ++ f7 (xs.getD (t132_1').toNat default) (0 : Int)) ∧ mu (t132_1' + 1) (c_3' ++ f7 (xs.getD (t132_1').toNat default) (0 : Int)) < mu t132_1' c_2') ∧
       (if (decide (0 < t132_1')) = true then
        (c_2'.length + ([44, 32] : List UInt8).length ≤ 140737488355328) ∧
        J0_3' (c_2' ++ ([44, 32] : List UInt8))
       else
        J0_3' c_2')
     else
      (c_2'.length + ([41] : List UInt8).length ≤ 140737488355328) ∧
      K (c_2' ++ ([41] : List UInt8)))) ∧
  J0
theorem alh (pb : Nat) (ua : Value) (te : TypeId) (fre : Nat × Nat) (B : List (Nat × Obj)) (bl : List UInt8) (p0 : Int) (s0 : List UInt8) (us : List Value) (need : Int) (xs : List Ex) (hRi1 : amq ua B us.length (us.flatMap ab5)) (K : (List UInt8) → Prop) (h : ads te fre B bl p0 s0 us need xs K) :
  d9 Tryd.prog 31 [zP pb, Value.iface 83 (Value.agg [zI p0, st s0, ua].toArray), zI need] (B ++ [(0, .cells [st ([124] : List UInt8), st ([38, 45] : List UInt8), st ([62, 62] : List UInt8), st ([126] : List UInt8), st ([46] : List UInt8)].toArray te fre)]) [bld 90 5 pb bl] (fun o => (∃ (d : List UInt8), K d ∧ o = .ret (Value.tuple #[]) [bld 90 5 pb d]) ∨ (False)) := by
 unfold ads at h
 refine p7 (n := 151) (L0 := [(0, zP pb), (1, Value.iface 83 (Value.agg [zI p0, st s0, ua].toArray)), (2, zI need)]) Tryd.func31 rfl rfl rfl rfl (fun w0 M Q hE => ?_)
 have hi1 : LIn ⟨151, [], w0, M, (B ++ [(0, .cells [st ([124] : List UInt8), st ([38, 45] : List UInt8), st ([62, 62] : List UInt8), st ([126] : List UInt8), st ([46] : List UInt8)].toArray te fre)])⟩ ua us.length (us.flatMap ab5) := amq.lin hRi1 (fun p hp => List.mem_append_left _ hp)
 refine a7 (fun _ hK => ?_)
 refine a6 ?_
 refine wA ?_
 refine WL.nil ?_
 refine kg (hK [(0, zP pb), (1, Value.iface 83 (Value.agg [zI p0, st s0, ua].toArray)), (2, zI need), (6, zI 6)] _ ?_)
 obtain ⟨J0, hJ, h⟩ := h
 refine p5 (X := Unit) (fun _ => J0) (fun _ => [(0, zP pb), (1, Value.iface 83 (Value.agg [zI p0, st s0, ua].toArray)), (2, zI need), (6, zI 6)]) (fun _ => [bld 90 5 pb bl]) ?_ (fun K0_4' hK_4' => ?_)
 ·rintro _ hj
  replace h := hJ () hj
  show WC _ _ _ _ [(0, zP pb), (1, Value.iface 83 (Value.agg [zI p0, st s0, ua].toArray)), (2, zI need), (6, zI 6)] [bld 90 5 pb bl]
  refine a7 (fun _ hK_5' => ?_)
  refine a7 (fun _ hK_6' => ?_)
  refine a6 ?_
  refine wm ?_
  refine wm ?_
  refine wv (OV.lss rfl rfl) ?_
  refine WL.nil ?_
  refine kg (hK_6' [(0, zP pb), (1, Value.iface 83 (Value.agg [zI p0, st s0, ua].toArray)), (6, zI 6), (30, zB (decide (6 < need)))] _ ?_)
  obtain ⟨o, h⟩ := h
  refine b5 (b := decide (6 < need)) rfl (fun hb => ?_) (fun hb => ?_)
  ·rw [o] at hb; cases hb
  refine b7 ?_
  refine kg (hK_5' [(0, zP pb), (1, Value.iface 83 (Value.agg [zI p0, st s0, ua].toArray)), (6, zI 6)] _ ?_)
  refine a7 (fun _ hK_7' => ?_)
  refine a6 ?_
  refine wm ?_
  refine WL.nil ?_
  refine kg (hK_7' [(0, zP pb), (6, zI 6), (38, Value.iface 83 (Value.agg [zI p0, st s0, ua].toArray))] _ ?_)
  refine b8 ?_
  refine a7 (fun _ hK_8' => ?_)
  refine a6 ?_
  refine wv (OV.assertNo (t2 := 83) (v := Value.agg [zI p0, st s0, ua].toArray) rfl aag aax rfl) ?_
  refine wv (OV.extract 1 rfl rfl) ?_
  refine wv (OV.extract 0 rfl rfl) ?_
  refine WL.nil ?_
  refine kg (hK_8' [(0, zP pb), (6, zI 6), (38, Value.iface 83 (Value.agg [zI p0, st s0, ua].toArray)), (40, zB false), (41, Value.agg [zI 0, st []].toArray)] _ ?_)
  refine d7 rfl ?_
  refine a7 (fun _ hK_9' => ?_)
  refine a6 ?_
  refine wv (OV.assertNo (t2 := 83) (v := Value.agg [zI p0, st s0, ua].toArray) rfl aa2 abi rfl) ?_
  refine wv (OV.extract 1 rfl rfl) ?_
  refine wv (OV.extract 0 rfl rfl) ?_
  refine WL.nil ?_
  refine kg (hK_9' [(0, zP pb), (6, zI 6), (38, Value.iface 83 (Value.agg [zI p0, st s0, ua].toArray)), (49, zB false), (50, Value.agg [zI 0, st []].toArray)] _ ?_)
  refine d7 rfl ?_
  refine a7 (fun _ hK_10' => ?_)
  refine a6 ?_
  refine wv (OV.assertNo (t2 := 83) (v := Value.agg [zI p0, st s0, ua].toArray) rfl abt acf rfl) ?_
  refine wv (OV.extract 1 rfl rfl) ?_
  refine wv (OV.extract 0 rfl rfl) ?_
  refine WL.nil ?_
  refine kg (hK_10' [(0, zP pb), (6, zI 6), (38, Value.iface 83 (Value.agg [zI p0, st s0, ua].toArray)), (59, zB false), (60, Value.agg [zI 0, st []].toArray)] _ ?_)
  refine d7 rfl ?_
  refine a7 (fun _ hK_11' => ?_)
  refine a6 ?_
  refine wv (OV.assertNo (t2 := 83) (v := Value.agg [zI p0, st s0, ua].toArray) rfl aco ad0 rfl) ?_
  refine wv (OV.extract 1 rfl rfl) ?_
  refine wv (OV.extract 0 rfl rfl) ?_
  refine WL.nil ?_
  refine kg (hK_11' [(0, zP pb), (6, zI 6), (38, Value.iface 83 (Value.agg [zI p0, st s0, ua].toArray)), (70, zB false), (71, Value.agg [zI 0, Value.nilIface].toArray)] _ ?_)
  refine d7 rfl ?_
  refine a7 (fun _ hK_12' => ?_)
  refine a6 ?_
  refine wv (OV.assertNo (t2 := 83) (v := Value.agg [zI p0, st s0, ua].toArray) rfl s5 aaz rfl) ?_
  refine wv (OV.extract 1 rfl rfl) ?_
  refine wv (OV.extract 0 rfl rfl) ?_
  refine WL.nil ?_
  refine kg (hK_12' [(0, zP pb), (6, zI 6), (38, Value.iface 83 (Value.agg [zI p0, st s0, ua].toArray)), (85, zB false), (86, Value.agg [zI 0, st [], Value.nilIface].toArray)] _ ?_)
  refine d7 rfl ?_
  refine a7 (fun _ hK_13' => ?_)
  refine a6 ?_
  refine wv (OV.assertNo (t2 := 83) (v := Value.agg [zI p0, st s0, ua].toArray) rfl s6 aa1 rfl) ?_
  refine wv (OV.extract 1 rfl rfl) ?_
  refine wv (OV.extract 0 rfl rfl) ?_
  refine WL.nil ?_
  refine kg (hK_13' [(0, zP pb), (6, zI 6), (38, Value.iface 83 (Value.agg [zI p0, st s0, ua].toArray)), (98, zB false), (99, Value.agg [zI 0, st [], Value.nilIface, Value.nilIface].toArray)] _ ?_)
  refine d7 rfl ?_
  refine a7 (fun _ hK_14' => ?_)
  refine a6 ?_
  refine wv (OV.assertYes (t' := 83) (v := Value.agg [zI p0, st s0, ua].toArray) rfl ap3) ?_
  refine wv (OV.extract 1 rfl rfl) ?_
  refine wv (OV.extract 0 rfl rfl) ?_
  refine WL.nil ?_
  refine kg (hK_14' [(0, zP pb), (120, zB true), (121, Value.agg [zI p0, st s0, ua].toArray)] _ ?_)
  refine h8 rfl ?_
  refine a7 (fun _ hK_15' => ?_)
  refine a6 ?_
  refine WL.make (MV.alloc ahf) rfl rfl rfl (fun b => ?_)
  refine WL.nilRow 37 1 ab5 ?_
  have hone := hi1.one
  refine WL.storeW (vs := [zI p0, st s0, ua]) 1 rfl rfl rfl rfl rfl ahi rfl (f8 rfl (f8 rfl (f8 hone x5))) rfl ?_
  refine WL.nil ?_
  refine kg (hK_15' [(0, zP pb), (15, zP b)] _ ?_)
  refine a7 (fun _ hK_16' => ?_)
  refine n4 6 [] j3 (by kernel_rfl) rfl (fun T hT => ?_)
  refine fv (fun _ => OV.move rfl) ?_
  refine fv (fun _ => OV.nilCheck rfl) ?_
  refine fv (fun _ => OV.fieldAddr0 rfl f9) ?_
  refine fv (fun _ => OV.fieldAddr0 rfl ah4) ?_
  refine fv (fun _ => OV.load rfl (At.own 1 rfl) rfl c6) ?_
  obtain ⟨o_1', h⟩ := h
  refine fv (fun _ => OV.cat rfl rfl o_1') ?_
  refine FL.weak (L' := fun γ => [(0, zP pb), (15, zP b), (124, zP pb), (127, st (s0 ++ ([40] : List UInt8)))]) (fun γ => ⟨rfl, rfl, rfl, rfl, trivial⟩) (FL.nil (hT (fun γ => [(0, zP pb), (15, zP b), (124, zP pb), (127, st (s0 ++ ([40] : List UInt8)))]) (fun γ => ?_)))
  obtain ⟨o_2', h⟩ := h
  refine WL.pick (H' := [bld 90 5 pb bl, HA.row (Value.slice none 0 0) 37 1 ([] : List Value).length (([] : List Value).flatMap ab5), HA.blk b (.cells [zI p0, st s0, ua].toArray 83 (0, 0))]) [2, 0, 1] rfl rfl ?_
  refine WL.call k9 rfl (f0 pb bl (s0 ++ ([40] : List UInt8)) o_2') rfl trivial rfl rfl ?_
  refine WL.nil ?_
  refine kg (hK_16' [(0, zP pb), (15, zP b)] _ ?_)
  refine a7 (fun _ hK_17' => ?_)
  refine a7 (fun _ hK_18' => ?_)
  refine a6 ?_
  refine wv (OV.fieldAddr0 rfl ab4) ?_
  refine wv (OV.load rfl (At.own 2 rfl) rfl ahm) ?_
  refine wv (OV.lenIn hi1 rfl ae9) ?_
  refine wm ?_
  refine WL.nil ?_
  refine kg (hK_18' [(0, zP pb), (130, ua), (131, zI (us.length : Int)), (132, zI 0)] _ ?_)
  refine b8 ?_
  refine WC.pick (H' := [bld 90 5 pb (bl ++ (s0 ++ ([40] : List UInt8)))]) [0] rfl rfl ?_
  obtain ⟨Inv, mu, h0, hr⟩ := h
  refine v7 (S := Int × (List UInt8)) (fun σ => Inv σ.1 σ.2) (fun σ => mu σ.1 σ.2) (fun σ => [(0, zP pb), (130, ua), (131, zI (us.length : Int)), (132, zI σ.1)]) (fun σ => [bld 90 5 pb σ.2]) (0, bl ++ (s0 ++ ([40] : List UInt8))) h0 ⟨rfl, rfl, rfl, rfl, trivial⟩ rfl ?_
  rintro ⟨t132_1', c_2'⟩ hi K0_33' hK_33'
  have h := hr t132_1' c_2' hi
  show WC _ _ _ _ [(0, zP pb), (130, ua), (131, zI (us.length : Int)), (132, zI t132_1')] [bld 90 5 pb c_2']
  refine a7 (fun _ hK_34' => ?_)
  refine a6 ?_
  refine wv (OV.lss rfl rfl) ?_
  refine WL.nil ?_
  refine kg (hK_34' [(0, zP pb), (130, ua), (131, zI (us.length : Int)), (132, zI t132_1'), (133, zB (decide (t132_1' < (us.length : Int))))] _ ?_)
  refine a7 (fun _ hK_35' => ?_)
  refine b5 (b := decide (t132_1' < (us.length : Int))) rfl (fun hb => ?_) (fun hb => ?_)
  ·replace h := j4 h hb
   refine b7 ?_
   refine kg (hK_35' [(0, zP pb), (130, ua), (131, zI (us.length : Int)), (132, zI t132_1')] _ ?_)
   refine a7 (fun _ hK_36' => ?_)
   refine b8 ?_
   refine a7 (fun _ hK_37' => ?_)
   refine a6 ?_
   refine wm ?_
   obtain ⟨o_12', h⟩ := h
   refine wv (OV.indexIn hi1 rfl rfl ae9 o_12') ?_
   refine wv (OV.loadInE1 (f := ab5) hi1 rfl ah0 (by omega) rfl o9) ?_
   refine wA ?_
   refine wA ?_
   refine WL.nil ?_
   refine kg (hK_37' [(0, zP pb), (16, zI t132_1'), (17, (us.getD (t132_1').toNat default)), (130, ua), (131, zI (us.length : Int)), (132, zI t132_1')] _ ?_)
   obtain ⟨J0_3', hJ_3', h⟩ := h
   refine p5 (X := (List UInt8)) (fun σ => J0_3' σ) (fun σ => [(0, zP pb), (17, (us.getD (t132_1').toNat default)), (130, ua), (131, zI (us.length : Int)), (132, zI t132_1')]) (fun σ => [bld 90 5 pb σ]) ?_ (fun K0_39' hK_39' => ?_)
   ·rintro c_3' hj
    replace h := hJ_3' c_3' hj
    show WC _ _ _ _ [(0, zP pb), (17, (us.getD (t132_1').toNat default)), (130, ua), (131, zI (us.length : Int)), (132, zI t132_1')] [bld 90 5 pb c_3']
    refine a6 ?_
    refine wm ?_
    refine wm ?_
    obtain ⟨o_14', h⟩ := h
    obtain ⟨o_15', h⟩ := h
    refine WL.call u4 rfl (o_14' pb c_3' (0 : Int) o_15') rfl (ROk.of (fun _ h => h)) rfl rfl ?_
    refine WL.nil ?_
    refine kg (hK_36' [(0, zP pb), (130, ua), (131, zI (us.length : Int)), (132, zI t132_1')] _ ?_)
    refine a6 ?_
    obtain ⟨o_16', h⟩ := h
    refine wv (OV.add rfl rfl o_16') ?_
    refine wm ?_
    refine WL.nil ?_
    exact kh (hK_33' (t132_1' + 1, c_3' ++ f7 (xs.getD (t132_1').toNat default) (0 : Int)) h.1 h.2) [0]
   ·skip
    refine a7 (fun _ hK_40' => ?_)
    refine a6 ?_
    refine wm ?_
    refine wv (OV.gtr rfl rfl) ?_
    refine WL.nil ?_
    refine kg (hK_40' [(0, zP pb), (17, (us.getD (t132_1').toNat default)), (130, ua), (131, zI (us.length : Int)), (132, zI t132_1'), (138, zB (decide (0 < t132_1')))] _ ?_)
    refine b5 (b := decide (0 < t132_1')) rfl (fun hb => ?_) (fun hb => ?_)
    ·replace h := j4 h hb
     refine a6 ?_
     refine wm ?_
     refine wv (OV.nilCheck rfl) ?_
     refine wv (OV.fieldAddr0 rfl f9) ?_
     obtain ⟨o_17', h⟩ := h
     refine WL.call k9 rfl (f0 pb c_2' ([44, 32] : List UInt8) o_17') rfl trivial rfl rfl ?_
     refine WL.nil ?_
     exact kh (hK_39' (c_2' ++ ([44, 32] : List UInt8)) h) [0]
    ·replace h := j5 h hb
     refine b7 ?_
     exact kh (hK_39' c_2' h) [0]
  ·replace h := j5 h hb
   refine p9 ?_
   refine kg (hK_17' [(0, zP pb)] _ ?_)
   refine a6 ?_
   refine wm ?_
   refine wv (OV.nilCheck rfl) ?_
   refine wv (OV.fieldAddr0 rfl f9) ?_
   obtain ⟨o_18', h⟩ := h
   refine WL.call k9 rfl (f0 pb c_2' ([41] : List UInt8) o_18') rfl trivial rfl rfl ?_
   refine WL.nil ?_
   exact hE.norm (abw [0] rfl rfl (.inl ⟨_, h, rfl⟩) (e9.none rfl))
 ·skip
  refine a7 (fun _ hK_41' => ?_)
  refine a6 ?_
  refine wm ?_
  refine WL.nil ?_
  refine kg (hK_41' [(0, zP pb), (1, Value.iface 83 (Value.agg [zI p0, st s0, ua].toArray)), (2, zI need), (6, zI 6), (18, Value.iface 83 (Value.agg [zI p0, st s0, ua].toArray))] _ ?_)
  refine b8 ?_
  refine a7 (fun _ hK_42' => ?_)
  refine a6 ?_
  refine wv (OV.assertNo (t2 := 83) (v := Value.agg [zI p0, st s0, ua].toArray) rfl s6 aa1 rfl) ?_
  refine wv (OV.extract 1 rfl rfl) ?_
  refine wv (OV.extract 0 rfl rfl) ?_
  refine WL.nil ?_
  refine kg (hK_42' [(0, zP pb), (1, Value.iface 83 (Value.agg [zI p0, st s0, ua].toArray)), (2, zI need), (6, zI 6), (18, Value.iface 83 (Value.agg [zI p0, st s0, ua].toArray)), (20, zB false), (21, Value.agg [zI 0, st [], Value.nilIface, Value.nilIface].toArray)] _ ?_)
  refine d7 rfl ?_
  refine a7 (fun _ hK_43' => ?_)
  refine a6 ?_
  refine wv (OV.assertNo (t2 := 83) (v := Value.agg [zI p0, st s0, ua].toArray) rfl s5 aaz rfl) ?_
  refine wv (OV.extract 1 rfl rfl) ?_
  refine wv (OV.extract 0 rfl rfl) ?_
  refine WL.nil ?_
  refine kg (hK_43' [(0, zP pb), (1, Value.iface 83 (Value.agg [zI p0, st s0, ua].toArray)), (2, zI need), (6, zI 6), (26, zB false), (27, Value.agg [zI 0, st [], Value.nilIface].toArray)] _ ?_)
  refine d7 rfl ?_
  refine b7 ?_
  exact kh (hK_4' () h) [0]
def ab8 (te : TypeId) (fre : Nat × Nat) (B : List (Nat × Obj)) (bl : List UInt8) (_ : Int) (s0 : List UInt8) (u1 : Value) (need : Int) (x1 : Ex) (K : (List UInt8) → Prop) : Prop :=
 ∃ (J0 : Prop),
  (∀ (_ : Unit), J0 →
   ((decide (5 < need)) = true) ∧
   (bl.length + ([40] : List UInt8).length ≤ 140737488355328) ∧
   (u1.oneCell' = true) ∧
   (v6 B te fre u1 x1) ∧
   (y5 (bl ++ ([40] : List UInt8)) (5 : Int) x1) ∧
   (((bl ++ ([40] : List UInt8)) ++ f7 x1 (5 : Int)).length + s0.length ≤ 140737488355328) ∧
   ((((bl ++ ([40] : List UInt8)) ++ f7 x1 (5 : Int)) ++ s0).length + ([41] : List UInt8).length ≤ 140737488355328) ∧
   K ((((bl ++ ([40] : List UInt8)) ++ f7 x1 (5 : Int)) ++ s0) ++ ([41] : List UInt8))) ∧
  (u1.oneCell' = true) ∧
  J0
theorem aip (pb : Nat) (te : TypeId) (fre : Nat × Nat) (B : List (Nat × Obj)) (bl : List UInt8) (p0 : Int) (s0 : List UInt8) (u1 : Value) (need : Int) (x1 : Ex) (K : (List UInt8) → Prop) (h : ab8 te fre B bl p0 s0 u1 need x1 K) :
  d9 Tryd.prog 31 [zP pb, Value.iface 78 (Value.agg [zI p0, st s0, u1].toArray), zI need] (B ++ [(0, .cells [st ([124] : List UInt8), st ([38, 45] : List UInt8), st ([62, 62] : List UInt8), st ([126] : List UInt8), st ([46] : List UInt8)].toArray te fre)]) [bld 90 5 pb bl] (fun o => (∃ (d : List UInt8), K d ∧ o = .ret (Value.tuple #[]) [bld 90 5 pb d]) ∨ (False)) := by
 unfold ab8 at h
 refine p7 (n := 151) (L0 := [(0, zP pb), (1, Value.iface 78 (Value.agg [zI p0, st s0, u1].toArray)), (2, zI need)]) Tryd.func31 rfl rfl rfl rfl (fun w0 M Q hE => ?_)
 refine a7 (fun _ hK => ?_)
 refine a6 ?_
 refine wA ?_
 refine WL.nil ?_
 refine kg (hK [(0, zP pb), (1, Value.iface 78 (Value.agg [zI p0, st s0, u1].toArray)), (2, zI need), (6, zI 6)] _ ?_)
 obtain ⟨J0, hJ, h⟩ := h
 refine p5 (X := Unit) (fun _ => J0) (fun _ => [(0, zP pb), (1, Value.iface 78 (Value.agg [zI p0, st s0, u1].toArray)), (2, zI need), (6, zI 5)]) (fun _ => [bld 90 5 pb bl]) ?_ (fun K0_5' hK_5' => ?_)
 ·rintro _ hj
  replace h := hJ () hj
  show WC _ _ _ _ [(0, zP pb), (1, Value.iface 78 (Value.agg [zI p0, st s0, u1].toArray)), (2, zI need), (6, zI 5)] [bld 90 5 pb bl]
  refine aj3 (fun K0_6' hK_6' => ?_)
  refine a7 (fun _ hK_7' => ?_)
  refine a6 ?_
  refine wm ?_
  refine wm ?_
  refine wv (OV.lss rfl rfl) ?_
  refine WL.nil ?_
  refine kg (hK_7' [(0, zP pb), (1, Value.iface 78 (Value.agg [zI p0, st s0, u1].toArray)), (6, zI 5), (30, zB (decide (5 < need)))] _ ?_)
  obtain ⟨o_1', h⟩ := h
  refine b5 (b := decide (5 < need)) rfl (fun hb => ?_) (fun hb => ?_)
  rotate_left
  ·rw [o_1'] at hb; cases hb
  refine a7 (fun _ hK_8' => ?_)
  refine a6 ?_
  refine wm ?_
  refine wv (OV.nilCheck rfl) ?_
  refine wv (OV.fieldAddr0 rfl f9) ?_
  obtain ⟨o_2', h⟩ := h
  refine WL.call k9 rfl (f0 pb bl ([40] : List UInt8) o_2') rfl trivial rfl rfl ?_
  refine WL.nil ?_
  refine kg (hK_8' [(0, zP pb), (1, Value.iface 78 (Value.agg [zI p0, st s0, u1].toArray)), (6, zI 5)] _ ?_)
  refine a6 ?_
  refine wm ?_
  refine wv (OV.nilCheck rfl) ?_
  refine wv (OV.fieldAddr0 rfl f9) ?_
  refine WL.deferA rfl ?_
  refine WL.nil ?_
  refine kg (hK_6' _ [(0, zP pb), (1, Value.iface 78 (Value.agg [zI p0, st s0, u1].toArray)), (6, zI 5)] _ ?_)
  refine a7 (fun _ hK_9' => ?_)
  refine a6 ?_
  refine wm ?_
  refine WL.nil ?_
  refine kg (hK_9' [(0, zP pb), (6, zI 5), (38, Value.iface 78 (Value.agg [zI p0, st s0, u1].toArray))] _ ?_)
  refine b8 ?_
  refine a7 (fun _ hK_10' => ?_)
  refine a6 ?_
  refine wv (OV.assertNo (t2 := 78) (v := Value.agg [zI p0, st s0, u1].toArray) rfl aag aax rfl) ?_
  refine wv (OV.extract 1 rfl rfl) ?_
  refine wv (OV.extract 0 rfl rfl) ?_
  refine WL.nil ?_
  refine kg (hK_10' [(0, zP pb), (6, zI 5), (38, Value.iface 78 (Value.agg [zI p0, st s0, u1].toArray)), (40, zB false), (41, Value.agg [zI 0, st []].toArray)] _ ?_)
  refine d7 rfl ?_
  refine a7 (fun _ hK_11' => ?_)
  refine a6 ?_
  refine wv (OV.assertNo (t2 := 78) (v := Value.agg [zI p0, st s0, u1].toArray) rfl aa2 abi rfl) ?_
  refine wv (OV.extract 1 rfl rfl) ?_
  refine wv (OV.extract 0 rfl rfl) ?_
  refine WL.nil ?_
  refine kg (hK_11' [(0, zP pb), (6, zI 5), (38, Value.iface 78 (Value.agg [zI p0, st s0, u1].toArray)), (49, zB false), (50, Value.agg [zI 0, st []].toArray)] _ ?_)
  refine d7 rfl ?_
  refine a7 (fun _ hK_12' => ?_)
  refine a6 ?_
  refine wv (OV.assertNo (t2 := 78) (v := Value.agg [zI p0, st s0, u1].toArray) rfl abt acf rfl) ?_
  refine wv (OV.extract 1 rfl rfl) ?_
  refine wv (OV.extract 0 rfl rfl) ?_
  refine WL.nil ?_
  refine kg (hK_12' [(0, zP pb), (6, zI 5), (38, Value.iface 78 (Value.agg [zI p0, st s0, u1].toArray)), (59, zB false), (60, Value.agg [zI 0, st []].toArray)] _ ?_)
  refine d7 rfl ?_
  refine a7 (fun _ hK_13' => ?_)
  refine a6 ?_
  refine wv (OV.assertNo (t2 := 78) (v := Value.agg [zI p0, st s0, u1].toArray) rfl aco ad0 rfl) ?_
  refine wv (OV.extract 1 rfl rfl) ?_
  refine wv (OV.extract 0 rfl rfl) ?_
  refine WL.nil ?_
  refine kg (hK_13' [(0, zP pb), (6, zI 5), (38, Value.iface 78 (Value.agg [zI p0, st s0, u1].toArray)), (70, zB false), (71, Value.agg [zI 0, Value.nilIface].toArray)] _ ?_)
  refine d7 rfl ?_
  refine a7 (fun _ hK_14' => ?_)
  refine a6 ?_
  refine wv (OV.assertYes (t' := 78) (v := Value.agg [zI p0, st s0, u1].toArray) rfl s5) ?_
  refine wv (OV.extract 1 rfl rfl) ?_
  refine wv (OV.extract 0 rfl rfl) ?_
  refine WL.nil ?_
  refine kg (hK_14' [(0, zP pb), (6, zI 5), (38, Value.iface 78 (Value.agg [zI p0, st s0, u1].toArray)), (85, zB true), (86, Value.agg [zI p0, st s0, u1].toArray)] _ ?_)
  refine h8 rfl ?_
  refine a7 (fun _ hK_15' => ?_)
  refine a6 ?_
  refine WL.make (MV.alloc acs) rfl rfl rfl (fun b_1' => ?_)
  obtain ⟨o_3', h⟩ := h
  refine WL.storeW (vs := [zI p0, st s0, u1]) 0 rfl rfl rfl rfl rfl acz rfl (f8 rfl (f8 rfl (f8 o_3' x5))) rfl ?_
  refine WL.nil ?_
  refine kg (hK_15' [(0, zP pb), (13, zP b_1')] _ ?_)
  refine a7 (fun _ hK_16' => ?_)
  refine a6 ?_
  refine wm ?_
  refine wv (OV.fieldAddr0 rfl ael) ?_
  refine wv (OV.load rfl (At.own 0 rfl) rfl o9) ?_
  obtain ⟨o_4', h⟩ := h
  obtain ⟨o_5', h⟩ := h
  refine WL.pick (H' := [bld 90 5 pb (bl ++ ([40] : List UInt8)), HA.blk b_1' (.cells [zI p0, st s0, u1].toArray 78 (0, 0))]) [1, 0] rfl rfl ?_
  refine WL.call u4 rfl (o_4' pb (bl ++ ([40] : List UInt8)) (5 : Int) o_5') rfl (ROk.of (fun _ h => h)) rfl rfl ?_
  refine WL.nil ?_
  refine kg (hK_16' [(0, zP pb), (13, zP b_1')] _ ?_)
  refine n4 5 [] j3 (by kernel_rfl) rfl (fun T hT => ?_)
  refine fv (fun _ => OV.move rfl) ?_
  refine fv (fun _ => OV.nilCheck rfl) ?_
  refine fv (fun _ => OV.fieldAddr0 rfl f9) ?_
  refine fv (fun _ => OV.fieldAddr0 rfl aeh) ?_
  refine fv (fun _ => OV.load rfl (At.own 1 rfl) rfl c6) ?_
  refine FL.weak (L' := fun γ => [(93, zP pb), (95, st s0)]) (fun γ => ⟨rfl, rfl, trivial⟩) (FL.nil (hT (fun γ => [(93, zP pb), (95, st s0)]) (fun γ => ?_)))
  obtain ⟨o_6', h⟩ := h
  refine WL.call k9 rfl (f0 pb ((bl ++ ([40] : List UInt8)) ++ f7 x1 (5 : Int)) s0 o_6') rfl trivial rfl rfl ?_
  refine WL.nil ?_
  obtain ⟨o_7', h⟩ := h
  exact hE.norm (an1 (A := [bld 90 5 pb (((bl ++ ([40] : List UInt8)) ++ f7 x1 (5 : Int)) ++ s0)]) (A' := [bld 90 5 pb ((((bl ++ ([40] : List UInt8)) ++ f7 x1 (5 : Int)) ++ s0) ++ ([41] : List UInt8))]) (Rest := [HA.blk b_1' (.cells [zI p0, st s0, u1].toArray 78 (0, 0))]) [0, 1] rfl rfl k9 (abv pb (((bl ++ ([40] : List UInt8)) ++ f7 x1 (5 : Int)) ++ s0) ([41] : List UInt8) o_7') trivial [0] rfl rfl (.inl ⟨_, h, rfl⟩) (e9.none rfl))
 ·skip
  refine a7 (fun _ hK_17' => ?_)
  refine a6 ?_
  refine wm ?_
  refine WL.nil ?_
  refine kg (hK_17' [(0, zP pb), (1, Value.iface 78 (Value.agg [zI p0, st s0, u1].toArray)), (2, zI need), (6, zI 6), (18, Value.iface 78 (Value.agg [zI p0, st s0, u1].toArray))] _ ?_)
  refine b8 ?_
  refine a7 (fun _ hK_18' => ?_)
  refine a6 ?_
  refine wv (OV.assertNo (t2 := 78) (v := Value.agg [zI p0, st s0, u1].toArray) rfl s6 aa1 rfl) ?_
  refine wv (OV.extract 1 rfl rfl) ?_
  refine wv (OV.extract 0 rfl rfl) ?_
  refine WL.nil ?_
  refine kg (hK_18' [(0, zP pb), (1, Value.iface 78 (Value.agg [zI p0, st s0, u1].toArray)), (2, zI need), (6, zI 6), (18, Value.iface 78 (Value.agg [zI p0, st s0, u1].toArray)), (20, zB false), (21, Value.agg [zI 0, st [], Value.nilIface, Value.nilIface].toArray)] _ ?_)
  refine d7 rfl ?_
  refine a7 (fun _ hK_19' => ?_)
  refine a6 ?_
  refine wv (OV.assertYes (t' := 78) (v := Value.agg [zI p0, st s0, u1].toArray) rfl s5) ?_
  refine wv (OV.extract 1 rfl rfl) ?_
  refine wv (OV.extract 0 rfl rfl) ?_
  refine WL.nil ?_
  refine kg (hK_19' [(0, zP pb), (1, Value.iface 78 (Value.agg [zI p0, st s0, u1].toArray)), (2, zI need), (6, zI 6), (26, zB true), (27, Value.agg [zI p0, st s0, u1].toArray)] _ ?_)
  refine h8 rfl ?_
  refine a7 (fun _ hK_20' => ?_)
  refine a6 ?_
  refine WL.make (MV.alloc acs) rfl rfl rfl (fun b_2' => ?_)
  obtain ⟨o_8', h⟩ := h
  refine WL.storeW (vs := [zI p0, st s0, u1]) 0 rfl rfl rfl rfl rfl acz rfl (f8 rfl (f8 rfl (f8 o_8' x5))) rfl ?_
  refine WL.nil ?_
  refine kg (hK_20' [(0, zP pb), (1, Value.iface 78 (Value.agg [zI p0, st s0, u1].toArray)), (2, zI need)] _ ?_)
  refine a6 ?_
  refine wA ?_
  refine WL.nil ?_
  exact kh (hK_5' () h) [1]
def abb (te : TypeId) (fre : Nat × Nat) (B : List (Nat × Obj)) (bl : List UInt8) (_ : Int) (s0 : List UInt8) (u1 : Value) (u2 : Value) (need : Int) (x1 : Ex) (x2 : Ex) (K : (List UInt8) → Prop) : Prop :=
 ∃ (J0 : Prop),
  (∀ (_ : Unit), J0 →
   ((decide (d8 s0 < need)) = true) ∧
   (bl.length + ([40] : List UInt8).length ≤ 140737488355328) ∧
   (u1.oneCell' = true) ∧
   (u2.oneCell' = true) ∧
   (v6 B te fre u1 x1) ∧
   (y5 (bl ++ ([40] : List UInt8)) (d8 s0) x1) ∧
   (([32] : List UInt8).length + s0.length ≤ 9223372036854775807) ∧
   ((([32] : List UInt8) ++ s0).length + ([32] : List UInt8).length ≤ 9223372036854775807) ∧
   (((bl ++ ([40] : List UInt8)) ++ f7 x1 (d8 s0)).length + ((([32] : List UInt8) ++ s0) ++ ([32] : List UInt8)).length ≤ 140737488355328) ∧
   (I64 ((d8 s0) + 1)) ∧
   (v6 B te fre u2 x2) ∧
   (y5 (((bl ++ ([40] : List UInt8)) ++ f7 x1 (d8 s0)) ++ ((([32] : List UInt8) ++ s0) ++ ([32] : List UInt8))) ((d8 s0) + 1) x2) ∧
   (((((bl ++ ([40] : List UInt8)) ++ f7 x1 (d8 s0)) ++ ((([32] : List UInt8) ++ s0) ++ ([32] : List UInt8))) ++ f7 x2 ((d8 s0) + 1)).length + ([41] : List UInt8).length ≤ 140737488355328) ∧
   K (((((bl ++ ([40] : List UInt8)) ++ f7 x1 (d8 s0)) ++ ((([32] : List UInt8) ++ s0) ++ ([32] : List UInt8))) ++ f7 x2 ((d8 s0) + 1)) ++ ([41] : List UInt8))) ∧
  (u1.oneCell' = true) ∧
  (u2.oneCell' = true) ∧
  (aci s0) ∧
  J0
theorem ahn (pb : Nat) (te : TypeId) (fre : Nat × Nat) (B : List (Nat × Obj)) (bl : List UInt8) (p0 : Int) (s0 : List UInt8) (u1 : Value) (u2 : Value) (need : Int) (x1 : Ex) (x2 : Ex) (K : (List UInt8) → Prop) (h : abb te fre B bl p0 s0 u1 u2 need x1 x2 K) :
  d9 Tryd.prog 31 [zP pb, Value.iface 80 (Value.agg [zI p0, st s0, u1, u2].toArray), zI need] (B ++ [(0, .cells [st ([124] : List UInt8), st ([38, 45] : List UInt8), st ([62, 62] : List UInt8), st ([126] : List UInt8), st ([46] : List UInt8)].toArray te fre)]) [bld 90 5 pb bl] (fun o => (∃ (d : List UInt8), K d ∧ o = .ret (Value.tuple #[]) [bld 90 5 pb d]) ∨ (False)) := by
 unfold abb at h
 refine p7 (n := 151) (L0 := [(0, zP pb), (1, Value.iface 80 (Value.agg [zI p0, st s0, u1, u2].toArray)), (2, zI need)]) Tryd.func31 rfl rfl rfl rfl (fun w0 M Q hE => ?_)
 refine a7 (fun _ hK => ?_)
 refine a6 ?_
 refine wA ?_
 refine WL.nil ?_
 refine kg (hK [(0, zP pb), (1, Value.iface 80 (Value.agg [zI p0, st s0, u1, u2].toArray)), (2, zI need), (6, zI 6)] _ ?_)
 obtain ⟨J0, hJ, h⟩ := h
 refine p5 (X := Unit) (fun _ => J0) (fun _ => [(0, zP pb), (1, Value.iface 80 (Value.agg [zI p0, st s0, u1, u2].toArray)), (2, zI need), (6, zI (d8 s0))]) (fun _ => [bld 90 5 pb bl]) ?_ (fun K0_4' hK_4' => ?_)
 ·rintro _ hj
  replace h := hJ () hj
  show WC _ _ _ _ [(0, zP pb), (1, Value.iface 80 (Value.agg [zI p0, st s0, u1, u2].toArray)), (2, zI need), (6, zI (d8 s0))] [bld 90 5 pb bl]
  refine aj3 (fun K0_5' hK_5' => ?_)
  refine a7 (fun _ hK_6' => ?_)
  refine a6 ?_
  refine wm ?_
  refine wm ?_
  refine wv (OV.lss rfl rfl) ?_
  refine WL.nil ?_
  refine kg (hK_6' [(0, zP pb), (1, Value.iface 80 (Value.agg [zI p0, st s0, u1, u2].toArray)), (6, zI (d8 s0)), (30, zB (decide (d8 s0 < need)))] _ ?_)
  obtain ⟨o_3', h⟩ := h
  refine b5 (b := decide (d8 s0 < need)) rfl (fun hb => ?_) (fun hb => ?_)
  rotate_left
  ·rw [o_3'] at hb; cases hb
  refine a7 (fun _ hK_7' => ?_)
  refine a6 ?_
  refine wm ?_
  refine wv (OV.nilCheck rfl) ?_
  refine wv (OV.fieldAddr0 rfl f9) ?_
  obtain ⟨o_4', h⟩ := h
  refine WL.call k9 rfl (f0 pb bl ([40] : List UInt8) o_4') rfl trivial rfl rfl ?_
  refine WL.nil ?_
  refine kg (hK_7' [(0, zP pb), (1, Value.iface 80 (Value.agg [zI p0, st s0, u1, u2].toArray)), (6, zI (d8 s0))] _ ?_)
  refine a6 ?_
  refine wm ?_
  refine wv (OV.nilCheck rfl) ?_
  refine wv (OV.fieldAddr0 rfl f9) ?_
  refine WL.deferA rfl ?_
  refine WL.nil ?_
  refine kg (hK_5' _ [(0, zP pb), (1, Value.iface 80 (Value.agg [zI p0, st s0, u1, u2].toArray)), (6, zI (d8 s0))] _ ?_)
  refine a7 (fun _ hK_8' => ?_)
  refine a6 ?_
  refine wm ?_
  refine WL.nil ?_
  refine kg (hK_8' [(0, zP pb), (6, zI (d8 s0)), (38, Value.iface 80 (Value.agg [zI p0, st s0, u1, u2].toArray))] _ ?_)
  refine b8 ?_
  refine a7 (fun _ hK_9' => ?_)
  refine a6 ?_
  refine wv (OV.assertNo (t2 := 80) (v := Value.agg [zI p0, st s0, u1, u2].toArray) rfl aag aax rfl) ?_
  refine wv (OV.extract 1 rfl rfl) ?_
  refine wv (OV.extract 0 rfl rfl) ?_
  refine WL.nil ?_
  refine kg (hK_9' [(0, zP pb), (6, zI (d8 s0)), (38, Value.iface 80 (Value.agg [zI p0, st s0, u1, u2].toArray)), (40, zB false), (41, Value.agg [zI 0, st []].toArray)] _ ?_)
  refine d7 rfl ?_
  refine a7 (fun _ hK_10' => ?_)
  refine a6 ?_
  refine wv (OV.assertNo (t2 := 80) (v := Value.agg [zI p0, st s0, u1, u2].toArray) rfl aa2 abi rfl) ?_
  refine wv (OV.extract 1 rfl rfl) ?_
  refine wv (OV.extract 0 rfl rfl) ?_
  refine WL.nil ?_
  refine kg (hK_10' [(0, zP pb), (6, zI (d8 s0)), (38, Value.iface 80 (Value.agg [zI p0, st s0, u1, u2].toArray)), (49, zB false), (50, Value.agg [zI 0, st []].toArray)] _ ?_)
  refine d7 rfl ?_
  refine a7 (fun _ hK_11' => ?_)
  refine a6 ?_
  refine wv (OV.assertNo (t2 := 80) (v := Value.agg [zI p0, st s0, u1, u2].toArray) rfl abt acf rfl) ?_
  refine wv (OV.extract 1 rfl rfl) ?_
  refine wv (OV.extract 0 rfl rfl) ?_
  refine WL.nil ?_
  refine kg (hK_11' [(0, zP pb), (6, zI (d8 s0)), (38, Value.iface 80 (Value.agg [zI p0, st s0, u1, u2].toArray)), (59, zB false), (60, Value.agg [zI 0, st []].toArray)] _ ?_)
  refine d7 rfl ?_
  refine a7 (fun _ hK_12' => ?_)
  refine a6 ?_
  refine wv (OV.assertNo (t2 := 80) (v := Value.agg [zI p0, st s0, u1, u2].toArray) rfl aco ad0 rfl) ?_
  refine wv (OV.extract 1 rfl rfl) ?_
  refine wv (OV.extract 0 rfl rfl) ?_
  refine WL.nil ?_
  refine kg (hK_12' [(0, zP pb), (6, zI (d8 s0)), (38, Value.iface 80 (Value.agg [zI p0, st s0, u1, u2].toArray)), (70, zB false), (71, Value.agg [zI 0, Value.nilIface].toArray)] _ ?_)
  refine d7 rfl ?_
  refine a7 (fun _ hK_13' => ?_)
  refine a6 ?_
  refine wv (OV.assertNo (t2 := 80) (v := Value.agg [zI p0, st s0, u1, u2].toArray) rfl s5 aaz rfl) ?_
  refine wv (OV.extract 1 rfl rfl) ?_
  refine wv (OV.extract 0 rfl rfl) ?_
  refine WL.nil ?_
  refine kg (hK_13' [(0, zP pb), (6, zI (d8 s0)), (38, Value.iface 80 (Value.agg [zI p0, st s0, u1, u2].toArray)), (85, zB false), (86, Value.agg [zI 0, st [], Value.nilIface].toArray)] _ ?_)
  refine d7 rfl ?_
  refine a7 (fun _ hK_14' => ?_)
  refine a6 ?_
  refine wv (OV.assertYes (t' := 80) (v := Value.agg [zI p0, st s0, u1, u2].toArray) rfl s6) ?_
  refine wv (OV.extract 1 rfl rfl) ?_
  refine wv (OV.extract 0 rfl rfl) ?_
  refine WL.nil ?_
  refine kg (hK_14' [(0, zP pb), (6, zI (d8 s0)), (38, Value.iface 80 (Value.agg [zI p0, st s0, u1, u2].toArray)), (98, zB true), (99, Value.agg [zI p0, st s0, u1, u2].toArray)] _ ?_)
  refine h8 rfl ?_
  refine a7 (fun _ hK_15' => ?_)
  refine a6 ?_
  refine WL.make (MV.alloc acv) rfl rfl rfl (fun b_1' => ?_)
  obtain ⟨o_5', h⟩ := h
  obtain ⟨o_6', h⟩ := h
  refine WL.storeW (vs := [zI p0, st s0, u1, u2]) 0 rfl rfl rfl rfl rfl act rfl (f8 rfl (f8 rfl (f8 o_5' (f8 o_6' x5)))) rfl ?_
  refine WL.nil ?_
  refine kg (hK_15' [(0, zP pb), (6, zI (d8 s0)), (14, zP b_1')] _ ?_)
  refine a7 (fun _ hK_16' => ?_)
  refine a6 ?_
  refine wm ?_
  refine wv (OV.fieldAddr0 rfl aei) ?_
  refine wv (OV.load rfl (At.own 0 rfl) rfl o9) ?_
  refine wm ?_
  obtain ⟨o_7', h⟩ := h
  obtain ⟨o_8', h⟩ := h
  refine WL.pick (H' := [bld 90 5 pb (bl ++ ([40] : List UInt8)), HA.blk b_1' (.cells [zI p0, st s0, u1, u2].toArray 80 (0, 0))]) [1, 0] rfl rfl ?_
  refine WL.call u4 rfl (o_7' pb (bl ++ ([40] : List UInt8)) (d8 s0) o_8') rfl (ROk.of (fun _ h => h)) rfl rfl ?_
  refine WL.nil ?_
  refine kg (hK_16' [(0, zP pb), (6, zI (d8 s0)), (14, zP b_1')] _ ?_)
  refine a7 (fun _ hK_17' => ?_)
  refine n4 7 [] j3 (by kernel_rfl) rfl (fun T hT => ?_)
  refine fv (fun _ => OV.move rfl) ?_
  refine fv (fun _ => OV.nilCheck rfl) ?_
  refine fv (fun _ => OV.fieldAddr0 rfl f9) ?_
  refine fv (fun _ => OV.fieldAddr0 rfl aav) ?_
  refine fv (fun _ => OV.load rfl (At.own 1 rfl) rfl c6) ?_
  obtain ⟨o_9', h⟩ := h
  refine fv (fun _ => OV.cat rfl rfl o_9') ?_
  obtain ⟨o_10', h⟩ := h
  refine fv (fun _ => OV.cat rfl rfl o_10') ?_
  refine FL.weak (L' := fun γ => [(0, zP pb), (6, zI (d8 s0)), (14, zP b_1'), (107, zP pb), (111, st ((([32] : List UInt8) ++ s0) ++ ([32] : List UInt8)))]) (fun γ => ⟨rfl, rfl, rfl, rfl, rfl, trivial⟩) (FL.nil (hT (fun γ => [(0, zP pb), (6, zI (d8 s0)), (14, zP b_1'), (107, zP pb), (111, st ((([32] : List UInt8) ++ s0) ++ ([32] : List UInt8)))]) (fun γ => ?_)))
  obtain ⟨o_11', h⟩ := h
  refine WL.call k9 rfl (f0 pb ((bl ++ ([40] : List UInt8)) ++ f7 x1 (d8 s0)) ((([32] : List UInt8) ++ s0) ++ ([32] : List UInt8)) o_11') rfl trivial rfl rfl ?_
  refine WL.nil ?_
  refine kg (hK_17' [(0, zP pb), (6, zI (d8 s0)), (14, zP b_1')] _ ?_)
  refine a6 ?_
  refine wm ?_
  refine wv (OV.fieldAddr0 rfl aef) ?_
  refine wv (OV.load rfl (At.own 1 rfl) rfl o9) ?_
  refine wm ?_
  obtain ⟨o_12', h⟩ := h
  refine wv (OV.add rfl rfl o_12') ?_
  obtain ⟨o_13', h⟩ := h
  obtain ⟨o_14', h⟩ := h
  refine WL.call u4 rfl (o_13' pb (((bl ++ ([40] : List UInt8)) ++ f7 x1 (d8 s0)) ++ ((([32] : List UInt8) ++ s0) ++ ([32] : List UInt8))) ((d8 s0) + 1) o_14') rfl (ROk.of (fun _ h => h)) rfl rfl ?_
  refine WL.nil ?_
  obtain ⟨o_15', h⟩ := h
  exact hE.norm (an1 (A := [bld 90 5 pb ((((bl ++ ([40] : List UInt8)) ++ f7 x1 (d8 s0)) ++ ((([32] : List UInt8) ++ s0) ++ ([32] : List UInt8))) ++ f7 x2 ((d8 s0) + 1))]) (A' := [bld 90 5 pb (((((bl ++ ([40] : List UInt8)) ++ f7 x1 (d8 s0)) ++ ((([32] : List UInt8) ++ s0) ++ ([32] : List UInt8))) ++ f7 x2 ((d8 s0) + 1)) ++ ([41] : List UInt8))]) (Rest := [HA.blk b_1' (.cells [zI p0, st s0, u1, u2].toArray 80 (0, 0))]) [0, 1] rfl rfl k9 (abv pb ((((bl ++ ([40] : List UInt8)) ++ f7 x1 (d8 s0)) ++ ((([32] : List UInt8) ++ s0) ++ ([32] : List UInt8))) ++ f7 x2 ((d8 s0) + 1)) ([41] : List UInt8) o_15') trivial [0] rfl rfl (.inl ⟨_, h, rfl⟩) (e9.none rfl))
 ·skip
  refine a7 (fun _ hK_18' => ?_)
  refine a6 ?_
  refine wm ?_
  refine WL.nil ?_
  refine kg (hK_18' [(0, zP pb), (1, Value.iface 80 (Value.agg [zI p0, st s0, u1, u2].toArray)), (2, zI need), (6, zI 6), (18, Value.iface 80 (Value.agg [zI p0, st s0, u1, u2].toArray))] _ ?_)
  refine b8 ?_
  refine a7 (fun _ hK_19' => ?_)
  refine a6 ?_
  refine wv (OV.assertYes (t' := 80) (v := Value.agg [zI p0, st s0, u1, u2].toArray) rfl s6) ?_
  refine wv (OV.extract 1 rfl rfl) ?_
  refine wv (OV.extract 0 rfl rfl) ?_
  refine WL.nil ?_
  refine kg (hK_19' [(0, zP pb), (1, Value.iface 80 (Value.agg [zI p0, st s0, u1, u2].toArray)), (2, zI need), (6, zI 6), (18, Value.iface 80 (Value.agg [zI p0, st s0, u1, u2].toArray)), (20, zB true), (21, Value.agg [zI p0, st s0, u1, u2].toArray)] _ ?_)
  refine h8 rfl ?_
  refine a7 (fun _ hK_20' => ?_)
  refine a6 ?_
  refine WL.make (MV.alloc acv) rfl rfl rfl (fun b_2' => ?_)
  obtain ⟨o_16', h⟩ := h
  obtain ⟨o_17', h⟩ := h
  refine WL.storeW (vs := [zI p0, st s0, u1, u2]) 0 rfl rfl rfl rfl rfl act rfl (f8 rfl (f8 rfl (f8 o_16' (f8 o_17' x5)))) rfl ?_
  refine WL.nil ?_
  refine kg (hK_20' [(0, zP pb), (1, Value.iface 80 (Value.agg [zI p0, st s0, u1, u2].toArray)), (2, zI need), (7, zP b_2')] _ ?_)
  refine a6 ?_
  refine wv (OV.fieldAddr0 rfl aav) ?_
  refine wv (OV.load rfl (At.own 0 rfl) rfl c6) ?_
  obtain ⟨o_18', h⟩ := h
  refine WL.call (A := []) afu rfl (afs te fre s0 o_18') rfl ⟨.inr (List.mem_append_right _ (List.mem_of_getElem? (i := 0) rfl)), trivial⟩ rfl rfl ?_
  refine wA ?_
  refine WL.nil ?_
  exact kh (hK_4' () h) [1]
section
variable {te : TypeId} {fre : Nat × Nat} {B : List (Nat × Obj)}
theorem aa6 {pb : Nat} {l : List UInt8} {x : Out} (h : (∃ d : List UInt8, d = l ∧ x = .ret (.tuple #[]) [bld 90 5 pb d]) ∨ False) : x = .ret (.tuple #[]) [bld 90 5 pb l] := by
 rcases h with ⟨d, rfl, rfl⟩ | h
 ·rfl
 ·exact h.elim
theorem aev {r need : Int} {s : Bs} (h : ¬ r < need) : par r need s = s := if_neg h
theorem anq {r need : Int} {s : Bs} (h : r < need) : par r need s = [40] ++ s ++ [41] := if_pos h
theorem no6 {need : Int} (h : need ≤ 6) : (decide ((6 : Int) < need)) = false := by rw [decide_eq_false_iff_not]; omega
theorem aqa (p : Int) (s : Bs) : v6 B te fre (.iface 71 (.agg [.int .i64 p, st s].toArray)) (.name p s) := by
 intro pb l need hb
 obtain ⟨hn, hk, hl⟩ := hb
 have hlen := s9 (.name p s) need hk
 rw [f7, aev (r := rkX (.name p s)) (show ¬ (6 : Int) < need by omega), l7] at hlen ⊢
 refine (alo pb te fre B l p s need (fun d => d = l ++ s) ?_).weak fun x h => aa6 h
 unfold adk
 exact ⟨True, fun _ _ => ⟨no6 hn.2, by omega, rfl⟩, trivial⟩
theorem ap2 (p : Int) (s : Bs) : v6 B te fre (.iface 73 (.agg [.int .i64 p, st s].toArray)) (.text p s) := by
 intro pb l need hb
 obtain ⟨hn, hk, hl⟩ := hb
 have hlen := s9 (.text p s) need hk
 rw [OKX] at hk
 rw [f7, aev (r := rkX (.text p s)) (show ¬ (6 : Int) < need by omega), l7] at hlen ⊢
 refine (ak7 pb te fre B l p s need (fun d => d = l ++ abg s) ?_).weak fun x h => aa6 h
 unfold adj
 exact ⟨True, fun _ _ => ⟨no6 hn.2, by omega, by omega, rfl⟩, trivial⟩
theorem apa (p : Int) (s : Bs) : v6 B te fre (.iface 74 (.agg [.int .i64 p, st s].toArray)) (.regex p s) := by
 intro pb l need hb
 obtain ⟨hn, hk, hl⟩ := hb
 have hlen := s9 (.regex p s) need hk
 rw [OKX] at hk
 rw [f7, aev (r := rkX (.regex p s)) (show ¬ (6 : Int) < need by omega), l7] at hlen ⊢
 refine (aj4 pb te fre B l p s need (fun d => d = l ++ ([47] ++ s ++ [47])) ?_).weak fun x h => aa6 h
 unfold acx
 refine ⟨True, fun _ _ => ⟨no6 hn.2, ?_⟩, trivial⟩
 simp only [List.length_append, List.length_cons, List.length_nil] at hlen ⊢
 exact ⟨by omega, by omega, by omega, trivial⟩
theorem aoo (p : Int) (a : Ex) (u : Value) (h1 : u.oneCell' = true) (h : v6 B te fre u a) : v6 B te fre (.iface 76 (.agg [.int .i64 p, u].toArray)) (.keyed p a) := by
 intro pb l need hb
 obtain ⟨hn, hk, hl⟩ := hb
 rw [OKX] at hk
 rw [wX] at hl
 have hlen := s9 a 0 hk
 rw [f7, aev (r := rkX (.keyed p a)) (show ¬ (6 : Int) < need by omega), l7]
 refine (ajy pb te fre B l p u need a (fun d => d = l ++ ([123] ++ f7 a 0 ++ [125])) ?_).weak fun x h => aa6 h
 unfold ac6 y5
 simp only [List.length_append, List.length_cons, List.length_nil]
 exact ⟨True, fun _ _ => ⟨no6 hn.2, h1, by omega, h, ⟨by decide, hk, by omega⟩, by omega, by simp only [List.append_assoc]⟩, trivial⟩
theorem aoi (p : Int) (o : Bs) (a : Ex) (u : Value) (h1 : u.oneCell' = true) (h : v6 B te fre u a) : v6 B te fre (.iface 78 (.agg [.int .i64 p, st o, u].toArray)) (.unary p o a) := by
 intro pb l need hb
 obtain ⟨hn, hk, hl⟩ := hb
 rw [OKX] at hk
 rw [wX] at hl
 have hlen := s9 a 5 hk.2
 by_cases h5 : (5 : Int) < need
 ·rw [f7, anq (show rkX (.unary p o a) < need from h5), l7]
  refine (aip pb te fre B l p o u need a (fun d => d = l ++ ([40] ++ (f7 a 5 ++ o) ++ [41])) ?_).weak fun x h => aa6 h
  unfold ab8 y5
  simp only [List.length_append, List.length_cons, List.length_nil]
  exact ⟨True, fun _ _ => ⟨decide_eq_true h5, by omega, h1, h, ⟨by decide, hk.2, by omega⟩, by omega, by omega, by simp only [List.append_assoc]⟩, h1, trivial⟩
 ·rw [f7, aev (show ¬ rkX (.unary p o a) < need from h5), l7]
  refine (ajx pb te fre B l p o u need a (fun d => d = l ++ (f7 a 5 ++ o)) ?_).weak fun x h => aa6 h
  unfold acy y5
  simp only [List.length_append]
  exact ⟨True, fun _ _ => ⟨decide_eq_false h5, h1, h, ⟨by decide, hk.2, by omega⟩, by omega, by simp only [List.append_assoc]⟩, h1, trivial⟩
theorem ams (p : Int) (o : Bs) (a b : Ex) (u1 u2 : Value) (h1 : u1.oneCell' = true) (h2 : u2.oneCell' = true) (g1 : v6 B te fre u1 a) (g2 : v6 B te fre u2 b) : v6 B te fre (.iface 80 (.agg [.int .i64 p, st o, u1, u2].toArray)) (.binary p o a b) := by
 intro pb l need hb
 obtain ⟨hn, hk, hl⟩ := hb
 rw [OKX] at hk
 rw [wX] at hl
 obtain ⟨⟨hm, hr⟩, ka, kb⟩ := hk
 have hr4 := (asq o).2
 have hlen := s9 a (d8 o) ka
 have hlen2 := s9 b (d8 o + 1) kb
 have hol := ak6 hm
 have hi : I64 (d8 o + 1) := by unfold I64; omega
 by_cases h5 : d8 o < need
 ·rw [f7, anq (show rkX (.binary p o a b) < need from h5), l7]
  refine (ahn pb te fre B l p o u1 u2 need a b (fun d => d = l ++ ([40] ++ (f7 a (d8 o) ++ ([32] ++ o ++ [32]) ++ f7 b (d8 o + 1)) ++ [41])) ?_).weak fun x h => aa6 h
  unfold abb y5
  simp only [List.length_append, List.length_cons, List.length_nil]
  exact ⟨True, fun _ _ => ⟨decide_eq_true h5, by omega, h1, h2, g1, ⟨by omega, ka, by omega⟩, by omega, by omega, by omega, hi, g2, ⟨by omega, kb, by omega⟩, by omega, by simp only [List.append_assoc]⟩, h1, h2, hm, trivial⟩
 ·rw [f7, aev (show ¬ rkX (.binary p o a b) < need from h5), l7]
  refine (ah6 pb te fre B l p o u1 u2 need a b (fun d => d = l ++ (f7 a (d8 o) ++ ([32] ++ o ++ [32]) ++ f7 b (d8 o + 1))) ?_).weak fun x h => aa6 h
  unfold aca y5
  simp only [List.length_append, List.length_cons, List.length_nil]
  exact ⟨True, fun _ _ => ⟨decide_eq_false h5, h1, h2, g1, ⟨by omega, ka, by omega⟩, by omega, by omega, by omega, hi, g2, ⟨by omega, kb, by omega⟩, by simp only [List.append_assoc]⟩, h1, h2, hm, trivial⟩
theorem arj (p : Int) (w : Bs) (l : ExL) (us : List Value) (ua : Value) (hI : amq ua B us.length (us.flatMap ab5)) (hlen : us.length = l.len) (g : ∀ i, i < l.len → v6 B te fre (us.getD i default) (l.toL.getD i default)) : v6 B te fre (.iface 83 (.agg [.int .i64 p, st w, ua].toArray)) (.call p w l) := by
 intro pb b need hb
 obtain ⟨hn, hk, hl⟩ := hb
 rw [OKX] at hk
 rw [wX] at hl
 have ha := al0 l hk.2
 have hll := als l
 rw [f7, aev (r := rkX (.call p w l)) (show ¬ (6 : Int) < need by omega), l7]
 refine (alh pb ua te fre B b p w us need l.toL hI (fun d => d = b ++ (w ++ [40] ++ aby l ++ [41])) ?_).weak fun x h => aa6 h
 unfold ads
 simp only [List.length_append, List.length_cons, List.length_nil]
 refine ⟨True, fun _ _ => ⟨no6 hn.2, by omega, by omega, fun i c => 0 ≤ i ∧ i ≤ us.length ∧ (i.toNat < l.len → c ++ w7 l i.toNat = b ++ (w ++ [40]) ++ aby l) ∧ (l.len ≤ i.toNat → c = b ++ (w ++ [40]) ++ aby l) ∧ c.length + 20000 * wL (w7.dropA l i.toNat) ≤ b.length + 4097 + 20000 * wL l, fun i _ => (us.length - i).toNat, ⟨Int.le_refl _, by omega, fun _ => rfl, fun h => ?_, ?_⟩, ?_⟩, trivial⟩
 ·cases l with
  | nil => rw [aby]; simp
  | cons a r => exact absurd h (by show ¬ r.len + 1 ≤ 0; omega)
 ·rw [show (0 : Int).toNat = 0 from rfl, am0]
  simp only [List.length_append, List.length_cons, List.length_nil]
  omega
 ·rintro i c ⟨i0, i1, i2, i3, i4⟩
  by_cases hi : i < us.length
  ·rw [if_pos (decide_eq_true hi)]
   have hil : i.toNat < l.len := by omega
   have i2 := i2 hil
   have ok := hk.2.at hil
   have hw : wL (w7.dropA l i.toNat) = wX (l.toL.getD i.toNat default) + 1 + wL (w7.dropA l (i.toNat + 1)) := by rw [ahy hil, wL]
   have hc2 : (if 0 < i.toNat then ([44, 32] : Bs) else []).length ≤ 2 := by split <;> decide
   have hpl := s9 (l.toL.getD i.toNat default) 0 ok.1
   rw [aqg hil] at i2
   refine ⟨⟨i0, hi⟩, fun c3 => c3 = c ++ (if 0 < i.toNat then [44, 32] else []), ?_, ?_⟩
   ·rintro c3 rfl
    refine ⟨g _ hil, ⟨by decide, ok.1, ?_⟩, by unfold I64; omega, ⟨by omega, by omega, fun _ => ?_, fun h => ?_, ?_⟩, by show (us.length - (i + 1)).toNat < (us.length - i).toNat; omega⟩
    ·rw [List.length_append]; omega
    ·rw [show (i + 1).toNat = i.toNat + 1 by omega, ← i2]; simp only [List.append_assoc]
    ·have he : w7 l (i.toNat + 1) = [] := ape (by omega) (by omega)
     rw [he, List.append_nil] at i2
     rw [← i2]; simp only [List.append_assoc]
    ·rw [show (i + 1).toNat = i.toNat + 1 by omega, List.length_append, List.length_append]; omega
   ·by_cases h0 : 0 < i
    ·rw [if_pos (decide_eq_true h0)]
     rw [if_pos (show 0 < i.toNat by omega)]
     exact ⟨by omega, rfl⟩
    ·rw [if_neg (by rw [decide_eq_true_eq]; exact h0), if_neg (show ¬ 0 < i.toNat by omega), List.append_nil]
  ·rw [if_neg (by rw [decide_eq_true_eq]; exact hi)]
   have h3 := i3 (by omega)
   subst h3
   simp only [List.length_append, List.length_cons, List.length_nil]
   exact ⟨by omega, by simp only [List.append_assoc]⟩
end
mutual
theorem abq {te : TypeId} {fre : Nat × Nat} {B : List (Nat × Obj)} : ∀ (e : Ex) (u : Value), TV B e u → v6 B te fre u e
 | .name p s, u, h => by rw [TV] at h; subst h; exact aqa p s
 | .text p s, u, h => by rw [TV] at h; subst h; exact ap2 p s
 | .regex p s, u, h => by rw [TV] at h; subst h; exact apa p s
 | .keyed p a, u, h => by rw [TV] at h; obtain ⟨u1, h1, rfl⟩ := h; exact aoo p a u1 h1.one (abq a u1 h1)
 | .unary p o a, u, h => by rw [TV] at h; obtain ⟨u1, h1, rfl⟩ := h; exact aoi p o a u1 h1.one (abq a u1 h1)
 | .binary p o a b, u, h => by rw [TV] at h; obtain ⟨u1, u2, h1, h2, rfl⟩ := h; exact ams p o a b u1 u2 h1.one h2.one (abq a u1 h1) (abq b u2 h2)
 | .call p w l, u, h => by
  rw [TV] at h
  obtain ⟨us, ua, b, cs, h1, h2, h3, rfl⟩ := h
  exact arj p w l us ua ⟨_, h2.inSl (y8 ah0 us), fun p hp => by rw [List.mem_singleton.1 hp]; exact h3⟩ h1.len (aku l us h1)
theorem aku {te : TypeId} {fre : Nat × Nat} {B : List (Nat × Obj)} : ∀ (l : ExL) (us : List Value), TVL B l us → ∀ i, i < l.len → v6 B te fre (us.getD i default) (l.toL.getD i default)
 | .nil, us, h, i, hi => absurd hi (Nat.not_lt_zero _)
 | .cons a r, us, h, i, hi => by
  rw [TVL] at h
  obtain ⟨u, vs, h1, h2, rfl⟩ := h
  cases i with
  | zero => exact abq a u h1
  | succ i => exact aku r vs h2 i (Nat.lt_of_succ_lt_succ hi)
end
end Go.Proofs.YtifajndacnfcbaaDoor
set_option maxRecDepth 100000
namespace Go.Proofs.YtifajndacnfcbaaDoor
open Go Go.RowKit
theorem apk : RowT Tryd.prog 41 3 := ⟨by kernel_rfl, by kernel_rfl⟩
theorem am8 : aa5 Tryd.prog 41 = some [zI 0, st [], Value.nilIface] := by kernel_rfl
theorem ane : n8 Tryd.prog 41 3 = true := by kernel_rfl
theorem aih : g0 Tryd.prog 41 1 = some 1 := by kernel_rfl
theorem aik : g0 Tryd.prog 41 2 = some 2 := by kernel_rfl
theorem app : l6 Tryd.prog 32 = true := by kernel_rfl
def af2 (te : TypeId) (fre : Nat × Nat) (B : List (Nat × Obj)) (ds : List aay) (mv : Value) (xm : Ex) (dx : List Ex) (K : (List UInt8) → Prop) : Prop :=
 ∃ (Inv : Int → (List UInt8) → Prop) (mu : Int → (List UInt8) → Nat),
  Inv 0 [] ∧ ∀ (t15_1' : Int) (c_1' : List UInt8), Inv t15_1' c_1' →
   (if (decide (t15_1' < (ds.length : Int))) = true then
    (0 ≤ t15_1' ∧ t15_1' < (ds.length : Int)) ∧
    (((ds.getD (t15_1').toNat default).2.2).oneCell' = true) ∧
    (([108, 101, 116, 32] : List UInt8).length + ((ds.getD (t15_1').toNat default).2.1).length ≤ 9223372036854775807) ∧
    ((([108, 101, 116, 32] : List UInt8) ++ ((ds.getD (t15_1').toNat default).2.1)).length + ([32, 61, 32] : List UInt8).length ≤ 9223372036854775807) ∧
    (c_1'.length + ((([108, 101, 116, 32] : List UInt8) ++ ((ds.getD (t15_1').toNat default).2.1)) ++ ([32, 61, 32] : List UInt8)).length ≤ 140737488355328) ∧
    (v6 B te fre ((ds.getD (t15_1').toNat default).2.2) (dx.getD (t15_1').toNat default)) ∧
    (y5 (c_1' ++ ((([108, 101, 116, 32] : List UInt8) ++ ((ds.getD (t15_1').toNat default).2.1)) ++ ([32, 61, 32] : List UInt8))) (0 : Int) (dx.getD (t15_1').toNat default)) ∧
    (((c_1' ++ ((([108, 101, 116, 32] : List UInt8) ++ ((ds.getD (t15_1').toNat default).2.1)) ++ ([32, 61, 32] : List UInt8))) ++ f7 (dx.getD (t15_1').toNat default) (0 : Int)).length + ([59, 10] : List UInt8).length ≤ 140737488355328) ∧
    (I64 (t15_1' + 1)) ∧
    Inv (t15_1' + 1) (((c_1' ++ ((([108, 101, 116, 32] : List UInt8) ++ ((ds.getD (t15_1').toNat default).2.1)) ++ ([32, 61, 32] : List UInt8))) ++ f7 (dx.getD (t15_1').toNat default) (0 : Int)) ++ ([59, 10] : List UInt8)) ∧ mu (t15_1' + 1) (((c_1' ++ ((([108, 101, 116, 32] : List UInt8) ++ ((ds.getD (t15_1').toNat default).2.1)) ++ ([32, 61, 32] : List UInt8))) ++ f7 (dx.getD (t15_1').toNat default) (0 : Int)) ++ ([59, 10] : List UInt8)) < mu t15_1' c_1'
   else
    (v6 B te fre mv xm) ∧
    (y5 c_1' (0 : Int) xm) ∧
    ((c_1' ++ f7 xm (0 : Int)).length + ([10] : List UInt8).length ≤ 140737488355328) ∧
    K ((c_1' ++ f7 xm (0 : Int)) ++ ([10] : List UInt8)))
theorem apg (qb : Nat) (wd : Value) (te : TypeId) (fre : Nat × Nat) (B : List (Nat × Obj)) (ds : List aay) (mv : Value) (xm : Ex) (dx : List Ex) (hRi1 : amq wd B ds.length (ds.flatMap adf)) (hqb : (qb, .cells [wd, mv].toArray 39 (0, 0)) ∈ B) (K : (List UInt8) → Prop) (h : af2 te fre B ds mv xm dx K) :
  d9 Tryd.prog 12 [zP qb] (B ++ [(0, .cells [st ([124] : List UInt8), st ([38, 45] : List UInt8), st ([62, 62] : List UInt8), st ([126] : List UInt8), st ([46] : List UInt8)].toArray te fre)]) [] (fun o => (∃ (v : List UInt8), K v ∧ o = .ret (st v) []) ∨ (False)) := by
 unfold af2 at h
 refine b9 (n := 50) (L0 := [(0, zP qb)]) Tryd.func12 rfl rfl rfl rfl (fun w0 M Q hE => ?_)
 have hi1 : LIn ⟨50, [], w0, M, (B ++ [(0, .cells [st ([124] : List UInt8), st ([38, 45] : List UInt8), st ([62, 62] : List UInt8), st ([126] : List UInt8), st ([46] : List UInt8)].toArray te fre)])⟩ wd ds.length (ds.flatMap adf) := amq.lin hRi1 (fun p hp => List.mem_append_left _ hp)
 refine a7 (fun _ hK => ?_)
 refine a6 ?_
 refine wA ?_
 refine WL.nil ?_
 refine kg (hK [(0, zP qb)] _ ?_)
 refine a7 (fun _ hK_1' => ?_)
 refine a7 (fun _ hK_2' => ?_)
 refine a6 ?_
 refine wm ?_
 refine wv (OV.eqlPN rfl rfl Tryd.underlying23) ?_
 refine WL.nil ?_
 refine kg (hK_2' [(0, zP qb), (7, zB false)] _ ?_)
 refine d7 rfl ?_
 refine b7 ?_
 refine kg (hK_1' [(0, zP qb)] _ ?_)
 refine a7 (fun _ hK_3' => ?_)
 refine a6 ?_
 refine wv (OV.build rfl (cs := [Value.pointer none, Value.slice none 0 0]) rfl) ?_
 refine WL.make (MV.box (cs := [Value.pointer none, Value.slice none 0 0]) rfl rfl) rfl rfl rfl (fun b => ?_)
 refine WL.asBld 5 ?_
 refine wA ?_
 refine WL.nil ?_
 refine kg (hK_3' [(0, zP qb), (3, zP b)] _ ?_)
 refine a7 (fun _ hK_4' => ?_)
 refine a7 (fun _ hK_5' => ?_)
 refine a6 ?_
 refine wm ?_
 refine wv (OV.nilCheck rfl) ?_
 refine wv (OV.fieldAddr0 rfl aat) ?_
 refine wv (OV.load rfl (At.old (List.mem_append_left _ hqb)) rfl aet) ?_
 refine wv (OV.lenIn hi1 rfl ady) ?_
 refine wm ?_
 refine WL.nil ?_
 refine kg (hK_5' [(0, zP qb), (3, zP b), (13, wd), (14, zI (ds.length : Int)), (15, zI 0)] _ ?_)
 refine b8 ?_
 obtain ⟨Inv, mu, h0, hr⟩ := h
 refine v7 (S := Int × (List UInt8)) (fun σ => Inv σ.1 σ.2) (fun σ => mu σ.1 σ.2) (fun σ => [(0, zP qb), (3, zP b), (13, wd), (14, zI (ds.length : Int)), (15, zI σ.1)]) (fun σ => [bld 90 5 b σ.2]) (0, []) h0 ⟨rfl, rfl, rfl, rfl, rfl, trivial⟩ rfl ?_
 rintro ⟨t15_1', c_1'⟩ hi K0_18' hK_18'
 have h := hr t15_1' c_1' hi
 show WC _ _ _ _ [(0, zP qb), (3, zP b), (13, wd), (14, zI (ds.length : Int)), (15, zI t15_1')] [bld 90 5 b c_1']
 refine a7 (fun _ hK_19' => ?_)
 refine a6 ?_
 refine wv (OV.lss rfl rfl) ?_
 refine WL.nil ?_
 refine kg (hK_19' [(0, zP qb), (3, zP b), (13, wd), (14, zI (ds.length : Int)), (15, zI t15_1'), (16, zB (decide (t15_1' < (ds.length : Int))))] _ ?_)
 refine a7 (fun _ hK_20' => ?_)
 refine b5 (b := decide (t15_1' < (ds.length : Int))) rfl (fun hb => ?_) (fun hb => ?_)
 ·replace h := j4 h hb
  refine b7 ?_
  refine kg (hK_20' [(0, zP qb), (3, zP b), (13, wd), (14, zI (ds.length : Int)), (15, zI t15_1')] _ ?_)
  refine a7 (fun _ hK_21' => ?_)
  refine b8 ?_
  refine a7 (fun _ hK_22' => ?_)
  refine a6 ?_
  obtain ⟨o_17', h⟩ := h
  refine wv (OV.indexIn hi1 rfl rfl ady o_17') ?_
  refine wv (OV.loadInE (f := adf) hi1 rfl ahk (by decide) (by omega) apk) ?_
  refine WL.make (MV.alloc am8) rfl rfl rfl (fun b_3' => ?_)
  obtain ⟨o_18', h⟩ := h
  refine WL.storeW (vs := [zI ((ds.getD (t15_1').toNat default).1), st ((ds.getD (t15_1').toNat default).2.1), (ds.getD (t15_1').toNat default).2.2]) 0 rfl rfl rfl rfl rfl ane rfl (f8 rfl (f8 rfl (f8 o_18' x5))) rfl ?_
  refine WL.nil ?_
  refine kg (hK_22' [(0, zP qb), (3, zP b), (5, zP b_3'), (13, wd), (14, zI (ds.length : Int)), (15, zI t15_1')] _ ?_)
  refine a7 (fun _ hK_23' => ?_)
  refine n4 7 [] j3 (by kernel_rfl) rfl (fun T_2' hT_2' => ?_)
  refine fv (fun _ => OV.move rfl) ?_
  refine fv (fun _ => OV.nilCheck rfl) ?_
  refine fv (fun _ => OV.fieldAddr0 rfl f9) ?_
  refine fv (fun _ => OV.fieldAddr0 rfl aih) ?_
  refine fv (fun _ => OV.load rfl (At.own 0 rfl) rfl c6) ?_
  obtain ⟨o_19', h⟩ := h
  refine fv (fun _ => OV.cat rfl rfl o_19') ?_
  obtain ⟨o_20', h⟩ := h
  refine fv (fun _ => OV.cat rfl rfl o_20') ?_
  refine FL.weak (L' := fun γ => [(0, zP qb), (3, zP b), (5, zP b_3'), (13, wd), (14, zI (ds.length : Int)), (15, zI t15_1'), (21, zP b), (25, st ((([108, 101, 116, 32] : List UInt8) ++ ((ds.getD (t15_1').toNat default).2.1)) ++ ([32, 61, 32] : List UInt8)))]) (fun γ => ⟨rfl, rfl, rfl, rfl, rfl, rfl, rfl, rfl, trivial⟩) (FL.nil (hT_2' (fun γ => [(0, zP qb), (3, zP b), (5, zP b_3'), (13, wd), (14, zI (ds.length : Int)), (15, zI t15_1'), (21, zP b), (25, st ((([108, 101, 116, 32] : List UInt8) ++ ((ds.getD (t15_1').toNat default).2.1)) ++ ([32, 61, 32] : List UInt8)))]) (fun γ => ?_)))
  obtain ⟨o_21', h⟩ := h
  refine WL.pick (H' := [bld 90 5 b c_1', HA.blk b_3' (.cells [zI ((ds.getD (t15_1').toNat default).1), st ((ds.getD (t15_1').toNat default).2.1), (ds.getD (t15_1').toNat default).2.2].toArray 41 (0, 0))]) [1, 0] rfl rfl ?_
  refine WL.call k9 rfl (f0 b c_1' ((([108, 101, 116, 32] : List UInt8) ++ ((ds.getD (t15_1').toNat default).2.1)) ++ ([32, 61, 32] : List UInt8)) o_21') rfl trivial rfl rfl ?_
  refine WL.nil ?_
  refine kg (hK_23' [(0, zP qb), (3, zP b), (5, zP b_3'), (13, wd), (14, zI (ds.length : Int)), (15, zI t15_1')] _ ?_)
  refine a7 (fun _ hK_24' => ?_)
  refine a6 ?_
  refine wm ?_
  refine wv (OV.fieldAddr0 rfl aik) ?_
  refine wv (OV.load rfl (At.own 1 rfl) rfl o9) ?_
  obtain ⟨o_22', h⟩ := h
  obtain ⟨o_23', h⟩ := h
  refine WL.call u4 rfl (o_22' b (c_1' ++ ((([108, 101, 116, 32] : List UInt8) ++ ((ds.getD (t15_1').toNat default).2.1)) ++ ([32, 61, 32] : List UInt8))) (0 : Int) o_23') rfl (ROk.of (fun _ h => h)) rfl rfl ?_
  refine WL.nil ?_
  refine kg (hK_24' [(0, zP qb), (3, zP b), (13, wd), (14, zI (ds.length : Int)), (15, zI t15_1')] _ ?_)
  refine a6 ?_
  refine wm ?_
  refine wv (OV.nilCheck rfl) ?_
  refine wv (OV.fieldAddr0 rfl f9) ?_
  obtain ⟨o_24', h⟩ := h
  refine WL.call k9 rfl (f0 b ((c_1' ++ ((([108, 101, 116, 32] : List UInt8) ++ ((ds.getD (t15_1').toNat default).2.1)) ++ ([32, 61, 32] : List UInt8))) ++ f7 (dx.getD (t15_1').toNat default) (0 : Int)) ([59, 10] : List UInt8) o_24') rfl trivial rfl rfl ?_
  refine WL.nil ?_
  refine kg (hK_21' [(0, zP qb), (3, zP b), (13, wd), (14, zI (ds.length : Int)), (15, zI t15_1')] _ ?_)
  refine a6 ?_
  obtain ⟨o_25', h⟩ := h
  refine wv (OV.add rfl rfl o_25') ?_
  refine wm ?_
  refine WL.nil ?_
  exact kh (hK_18' (t15_1' + 1, ((c_1' ++ ((([108, 101, 116, 32] : List UInt8) ++ ((ds.getD (t15_1').toNat default).2.1)) ++ ([32, 61, 32] : List UInt8))) ++ f7 (dx.getD (t15_1').toNat default) (0 : Int)) ++ ([59, 10] : List UInt8)) h.1 h.2) [0]
 ·replace h := j5 h hb
  refine p9 ?_
  refine kg (hK_4' [(0, zP qb), (3, zP b)] _ ?_)
  refine a7 (fun _ hK_25' => ?_)
  refine a6 ?_
  refine wm ?_
  refine wm ?_
  refine wv (OV.nilCheck rfl) ?_
  refine wv (OV.fieldAddr0 rfl aas) ?_
  refine wv (OV.load rfl (At.old (List.mem_append_left _ hqb)) rfl o9) ?_
  obtain ⟨o_26', h⟩ := h
  obtain ⟨o_27', h⟩ := h
  refine WL.call u4 rfl (o_26' b c_1' (0 : Int) o_27') rfl (ROk.of (fun _ h => h)) rfl rfl ?_
  refine WL.nil ?_
  refine kg (hK_25' [(3, zP b)] _ ?_)
  refine a7 (fun _ hK_26' => ?_)
  refine a6 ?_
  refine wm ?_
  refine wv (OV.nilCheck rfl) ?_
  refine wv (OV.fieldAddr0 rfl f9) ?_
  obtain ⟨o_28', h⟩ := h
  refine WL.call k9 rfl (f0 b (c_1' ++ f7 xm (0 : Int)) ([10] : List UInt8) o_28') rfl trivial rfl rfl ?_
  refine WL.nil ?_
  refine kg (hK_26' [(3, zP b)] _ ?_)
  refine a7 (fun _ hK_27' => ?_)
  refine a6 ?_
  refine wm ?_
  refine wv (OV.nilCheck rfl) ?_
  refine wv (OV.fieldAddr0 rfl f9) ?_
  refine WL.call app rfl (ala b ((c_1' ++ f7 xm (0 : Int)) ++ ([10] : List UInt8))) rfl trivial rfl rfl ?_
  refine wA ?_
  refine WL.nil ?_
  refine kg (hK_27' [(2, st ((c_1' ++ f7 xm (0 : Int)) ++ ([10] : List UInt8)))] _ ?_)
  refine c7 ?_
  exact hE.ret [] rfl rfl (.inl ⟨_, h, rfl⟩) (e9.of1 rfl (RV.tmp rfl))
def aq5 (d : p3) : Bs := [108, 101, 116, 32] ++ d.2.1 ++ [32, 61, 32] ++ f7 d.2.2 0 ++ [59, 10]
def af8 (l : List p3) : Bs := l.flatMap aq5
def c8 (l : List p3) (a : Ex) : Bs := af8 l ++ f7 a 0 ++ [10]
def wD : List p3 → Nat
 | [] => 0
 | d :: r => 1 + wX d.2.2 + wD r
def OKP (l : List p3) (a : Ex) : Prop := (∀ d ∈ l, d.2.1.length ≤ 4096 ∧ OKX d.2.2) ∧ OKX a ∧ wD l + wX a ≤ 100000
theorem arf {d : p3} (h : d.2.1.length ≤ 4096 ∧ OKX d.2.2) : (aq5 d).length ≤ 20000 * (1 + wX d.2.2) := by
 have := s9 d.2.2 0 h.2
 unfold aq5
 simp only [List.length_append, List.length_cons, List.length_nil]; omega
theorem afh : ∀ {l : List p3}, (∀ d ∈ l, d.2.1.length ≤ 4096 ∧ OKX d.2.2) → (af8 l).length ≤ 20000 * wD l
 | [], _ => Nat.le_refl _
 | d :: r, h => by
  have h1 := arf (h d List.mem_cons_self)
  have h2 := afh fun x hx => h x (List.mem_cons_of_mem _ hx)
  unfold af8 at h2 ⊢
  rw [List.flatMap_cons, List.length_append, wD]; omega
theorem ann : ∀ (l : List p3) (i : Nat), wD (l.take i) ≤ wD l
 | [], i => by rw [List.take_nil]; exact Nat.le_refl _
 | d :: r, 0 => Nat.zero_le _
 | d :: r, i + 1 => by have := ann r i; rw [List.take_succ_cons, wD, wD]; omega
theorem asy : ∀ {l : List p3} {i : Nat}, i < l.length → 1 + wX (l.getD i default).2.2 ≤ wD l
 | d :: r, 0, _ => by rw [wD]; show 1 + wX d.2.2 ≤ _; omega
 | d :: r, i + 1, h => by have := asy (Nat.lt_of_succ_lt_succ h); rw [wD]; show 1 + wX (r.getD i default).2.2 ≤ _; omega
theorem ai8 : ∀ l : List p3, l.length ≤ wD l
 | [] => Nat.zero_le _
 | d :: r => by have := ai8 r; rw [wD, List.length_cons]; omega
theorem TDs.at {B : List (Nat × Obj)} : ∀ {l : List p3} {ds : List aay} {i : Nat}, TDs B l ds → i < l.length → (ds.getD i default).1 = (l.getD i default).1 ∧ (ds.getD i default).2.1 = (l.getD i default).2.1 ∧ TV B (l.getD i default).2.2 (ds.getD i default).2.2
 | d :: r, x :: s, 0, h, _ => h.1
 | d :: r, x :: s, i + 1, h, hi => by
  show (s.getD i default).1 = (r.getD i default).1 ∧ (s.getD i default).2.1 = (r.getD i default).2.1 ∧ TV B (r.getD i default).2.2 (s.getD i default).2.2
  exact TDs.at h.2 (Nat.lt_of_succ_lt_succ hi)
 | d :: r, [], _, h, _ => h.elim
theorem amr {l : List p3} {i : Nat} (h : i < l.length) : af8 (l.take (i + 1)) = af8 (l.take i) ++ aq5 (l.getD i default) := by
 unfold af8
 rw [List.take_add_one, List.flatMap_append, List.getElem?_eq_getElem h, List.getD_eq_getElem?_getD, List.getElem?_eq_getElem h]
 simp
theorem atf {l : List p3} {i : Nat} (h : i < l.length) : (l.map (fun d => d.2.2)).getD i default = (l.getD i default).2.2 := by
 rw [List.getD_eq_getElem?_getD, List.getD_eq_getElem?_getD, List.getElem?_map, List.getElem?_eq_getElem h]; rfl
theorem atj {l : List p3} {i : Nat} (h : i < l.length) : l.getD i default ∈ l := by
 rw [List.getD_eq_getElem?_getD, List.getElem?_eq_getElem h]; exact List.getElem_mem h
theorem ac0 (te : TypeId) (fre : Nat × Nat) (B : List (Nat × Obj)) (b : Nat) (w m : Value) (ds : List aay) (B1 : List (Nat × Obj)) (l : List p3) (a : Ex) (h : abn B b w m ds B1 l a ∧ OKP l a) :
  d9 Tryd.prog 12 [.pointer (some ⟨b, 0, none⟩)] (B ++ ab2 te fre) [] (Ret (st (c8 l a)) []) := by
 obtain ⟨⟨h1, h2, h3, h4, h5⟩, k1, k2, k3⟩ := h
 have hl := h1.len
 have hdl := afh k1
 have hll := ai8 l
 have hal := s9 a 0 k2
 refine (apg b w te fre B ds m a (l.map fun d => d.2.2) ⟨_, h3.inSl (y8 ahk ds), h4⟩ h5 (fun d => d = c8 l a) ?_).weak ?_
 ·unfold af2
  refine ⟨fun i c => 0 ≤ i ∧ i ≤ ds.length ∧ c = af8 (l.take i.toNat), fun i _ => (ds.length - i).toNat, ⟨Int.le_refl _, by omega, rfl⟩, ?_⟩
  rintro i c ⟨i0, i1, rfl⟩
  have hpl := afh (l := l.take i.toNat) fun d hd => k1 d (List.mem_of_mem_take hd)
  have hpt := ann l i.toNat
  by_cases hi : i < ds.length
  ·rw [if_pos (decide_eq_true hi)]
   have hil : i.toNat < l.length := by omega
   obtain ⟨t1, t2, t3⟩ := h1.at hil
   have hw := asy hil
   have hk := k1 _ (atj hil)
   have hp := s9 _ 0 hk.2
   rw [atf hil, t2]
   simp only [List.length_append, List.length_cons, List.length_nil]
   refine ⟨⟨i0, hi⟩, t3.one, by omega, by omega, by omega, abq _ _ t3, ⟨by decide, hk.2, ?_⟩, by omega, by unfold I64; omega, ⟨by omega, by omega, ?_⟩, by show (ds.length - (i + 1)).toNat < (ds.length - i).toNat; omega⟩
   ·simp only [List.length_append, List.length_cons, List.length_nil]; omega
   ·rw [show (i + 1).toNat = i.toNat + 1 by omega, amr hil]
    unfold aq5
    simp only [List.append_assoc]
  ·rw [if_neg (by rw [decide_eq_true_eq]; exact hi)]
   rw [List.take_of_length_le (by omega)]
   exact ⟨abq _ _ h2, ⟨by decide, k2, by omega⟩, by simp only [List.length_append, List.length_cons, List.length_nil]; omega, rfl⟩
 ·rintro x (⟨d, rfl, rfl⟩ | h)
  ·rfl
  ·exact h.elim
end Go.Proofs.YtifajndacnfcbaaDoor
set_option maxRecDepth 100000
namespace Go.Proofs.YtifajndacnfcbaaDoor
open Go Go.RowKit
def nmB (c : UInt8) : Bool := j9 (c.toNat : Int) || q8 (c.toNat : Int)
inductive Rx : List UInt8 → Prop
 | nil : Rx []
 | esc (d : UInt8) (r : List UInt8) : m9 (d.toNat : Int) = true → Rx r → Rx (92 :: d :: r)
 | one (c : UInt8) (r : List UInt8) : m9 (c.toNat : Int) = true → c ≠ 47 → c ≠ 92 → Rx r → Rx (c :: r)
def atb (k : Tok) : Prop :=
 (k.1 = 1 ∧ (∃ c r, k.2.2 = c :: r ∧ j9 (c.toNat : Int) = true) ∧ (∀ c ∈ k.2.2, nmB c = true) ∧ k.2.2.length ≤ 32) ∨ k.1 = 2 ∨ (k.1 = 3 ∧ Rx k.2.2) ∨
 (k.1 = 4 ∧ ((∃ c, k.2.2 = [c] ∧ aah.contains c = true) ∨ k.2.2 = [62, 62]))
theorem aqj {t : List UInt8} {p : Int} {x : UInt8} (h : bt t p = (x.toNat : Int)) : (bt t p).toNat.toUInt8 = x := by rw [h]; simp
theorem adi {t : List UInt8} {i j : Int} (h : 0 ≤ i ∧ i < j ∧ j ≤ t.length) : ∃ x : UInt8, bt t i = (x.toNat : Int) ∧ cut t i j = x :: cut t (i + 1) j := by
 obtain ⟨x, hx, hb⟩ := afa (t := t) (p := i) ⟨h.1, by omega⟩
 refine ⟨x, hb, ?_⟩
 unfold cut
 rw [hx, show j.toNat - i.toNat = (j.toNat - (i + 1).toNat) + 1 by omega, List.take_succ_cons]
theorem ano (t : List UInt8) (i : Int) : cut t i i = [] := by unfold cut; simp
theorem akd {t : List UInt8} {i j : Int} : (cut t i j).length ≤ t.length := by
 unfold cut; rw [List.length_take, List.length_drop]; omega
theorem ad2 {t : List UInt8} {fr : Int} : ∀ {n : Nat} {k : Int} {x : List UInt8} {q : Int}, 0 ≤ k → l5 t fr n k = .ok (x, q) → x = cut t (fr + 1) (q - 1) ∧ Rx (cut t k (q - 1))
 | 0, _, _, _, _, h => by cases h
 | n + 1, k, x, q, h0, h => by
  have hq := aak h
  rw [l5] at h
  split at h
  ·rename_i hk
   split at h
   ·rename_i h9
    split at h
    ·cases h
    ·rename_i hp
     have h1 := aak h
     have h2 := ad2 (by omega) h
     refine ⟨h2.1, ?_⟩
     obtain ⟨c, c1, c2⟩ := adi (t := t) (i := k) (j := q - 1) ⟨h0, by omega, by omega⟩
     obtain ⟨d, d1, d2⟩ := adi (t := t) (i := k + 1) (j := q - 1) ⟨by omega, by omega, by omega⟩
     have hc : c = 92 := UInt8.toNat_inj.1 (by have := h9.1; rw [c1] at this; exact Int.ofNat.inj this)
     rw [c2, d2, hc, show k + 1 + 1 = k + 2 by omega]
     refine .esc d _ ?_ h2.2
     rw [d1] at hp; simpa using hp
   ·rename_i h9
    split at h
    ·cases h
    ·rename_i hp
     split at h
     ·simp only [Except.ok.injEq, Prod.mk.injEq] at h
      obtain ⟨rfl, rfl⟩ := h
      rw [show k + 1 - 1 = k by omega, ano]
      exact ⟨rfl, .nil⟩
     ·rename_i h47
      have h1 := aak h
      have h2 := ad2 (by omega) h
      refine ⟨h2.1, ?_⟩
      obtain ⟨c, c1, c2⟩ := adi (t := t) (i := k) (j := q - 1) ⟨h0, by omega, by omega⟩
      rw [c2]
      rw [c1] at hp h47 h9
      refine .one c _ (by simpa using hp) (fun e => h47 (by rw [e]; rfl)) (fun e => h9 ⟨by rw [e]; rfl, by omega⟩) h2.2
  ·cases h
theorem acq {t : List UInt8} {fr : Int} : ∀ {n : Nat} {out : List UInt8} {k : Int} {x : List UInt8} {q : Int}, j6 t fr n out k = .ok (x, q) → (x.length : Int) ≤ out.length + (q - k)
 | 0, _, _, _, _, h => by cases h
 | n + 1, out, k, x, q, h => by
  have hq := abp h
  rw [j6] at h
  split at h
  ·split at h
   ·simp only [Except.ok.injEq, Prod.mk.injEq] at h
    obtain ⟨rfl, rfl⟩ := h; omega
   ·split at h
    ·cases h
    ·split at h
     ·have := acq h
      rw [List.length_append] at this; simp only [List.length_cons, List.length_nil] at this; omega
     ·split at h
      ·cases h
      ·split at h
       ·cases h
       ·have h1 := acq h
        have h2 := (agu (t := t) (a := k) (b := (t6 t k).1) (ok := (t6 t k).2.1) (q := (t6 t k).2.2) rfl).1
        rw [List.length_append] at h1; simp only [List.length_cons, List.length_nil] at h1; omega
  ·cases h
theorem ai2 : ∀ l : List UInt8, ∀ c ∈ l.take (s7 l), nmB c = true
 | [], c, h => by simp at h
 | d :: l, c, h => by
  rw [s7] at h
  split at h
  ·rename_i hd
   rw [Nat.add_comm, List.take_succ_cons] at h
   rcases List.mem_cons.1 h with rfl | h
   ·exact hd
   ·exact ai2 l c h
  ·simp at h
theorem aos {t : List UInt8} {a : Int} (hb : 0 ≤ a ∧ a < t.length) {k : Tok} {q : Int} (h : z7 t a = .ok (k, q)) : atb k ∧ k.2.2.length ≤ t.length := by
 have hq := aac hb h
 unfold z7 at h
 split at h
 ·rename_i hl
  split at h
  ·cases h
  ·rename_i h32
   simp only [Except.ok.injEq, Prod.mk.injEq] at h
   obtain ⟨rfl, rfl⟩ := h
   refine ⟨.inl ⟨rfl, ?_, ?_, ?_⟩, akd⟩
   ·obtain ⟨c, c1, c2⟩ := adi (t := t) (i := a) (j := a + s7 (t.drop a.toNat)) ⟨hb.1, by omega, hq.2⟩
    exact ⟨c, _, c2, by rw [← c1]; exact hl⟩
   ·intro c hc
    refine ai2 (t.drop a.toNat) c ?_
    have : cut t a (a + s7 (t.drop a.toNat)) = (t.drop a.toNat).take (s7 (t.drop a.toNat)) := by
     unfold cut; congr 1; omega
    rw [← this]; exact hc
   ·show (cut _ _ _).length ≤ 32
    unfold cut; rw [List.length_take]; omega
 ·split at h
  ·unfold v8 at h
   split at h
   ·rename_i he
    have h1 := acq he
    have h2 := abp he
    simp only [Except.ok.injEq, Prod.mk.injEq] at h
    obtain ⟨rfl, rfl⟩ := h
    refine ⟨.inr (.inl rfl), ?_⟩
    simp only [List.length_nil] at h1
    dsimp only
    omega
   ·cases h
  ·split at h
   ·unfold z8 at h
    split at h
    ·rename_i he
     have h1 := ad2 (by omega) he
     have h2 := aak he
     simp only [Except.ok.injEq, Prod.mk.injEq] at h
     obtain ⟨rfl, rfl⟩ := h
     refine ⟨.inr (.inr (.inl ⟨rfl, ?_⟩)), ?_⟩
     ·show Rx _
      rw [h1.1]; exact h1.2
     ·show List.length _ ≤ _
      rw [h1.1]; exact akd
    ·cases h
   ·split at h
    ·rename_i hm
     simp only [Except.ok.injEq, Prod.mk.injEq] at h
     obtain ⟨rfl, rfl⟩ := h
     obtain ⟨c, c1, c2⟩ := adi (t := t) (i := a) (j := a + 1) ⟨hb.1, by omega, by omega⟩
     refine ⟨.inr (.inr (.inr ⟨rfl, .inl ⟨c, ?_, ?_⟩⟩)), akd⟩
     ·show cut t a (a + 1) = [c]
      rw [c2, ano]
     ·rw [aqj c1] at hm; exact hm
    ·split at h
     ·rename_i h62
      simp only [Except.ok.injEq, Prod.mk.injEq] at h
      obtain ⟨rfl, rfl⟩ := h
      exact ⟨.inr (.inr (.inr ⟨rfl, .inr rfl⟩)), by show 2 ≤ t.length; omega⟩
     ·cases h
theorem ahd {t : List UInt8} : ∀ {n : Nat} {l l' : List Tok} {a : Int}, 0 ≤ a → a ≤ t.length → q6 t n l a = .ok l' → (∀ k ∈ l, atb k ∧ k.2.2.length ≤ t.length) → ∃ ks, l' = ks ++ [((0, (t.length : Int), []) : Tok)] ∧ ∀ k ∈ ks, atb k ∧ k.2.2.length ≤ t.length
 | 0, _, _, _, _, _, h, _ => by cases h
 | n + 1, l, l', a, h0, h1, h, hl => by
  rw [q6] at h
  split at h
  ·rename_i ha
   split at h
   ·rename_i k q ho
    have hq := aac ⟨h0, ha⟩ ho
    have hg := o5 (t := t) (a := q) ⟨by omega, hq.2⟩
    have hk := aos ⟨h0, ha⟩ ho
    exact ahd (by omega) hg.2 h fun x hx => by
     rcases List.mem_append.1 hx with hx | hx
     ·exact hl x hx
     ·rw [List.mem_singleton.1 hx]; exact hk
   ·cases h
  ·simp only [Except.ok.injEq] at h
   exact ⟨l, h.symm, hl⟩
theorem aot : ∀ c ∈ aah, j9 (c.toNat : Int) = false ∧ c ≠ 34 ∧ c ≠ 47 ∧ c ≠ 35 ∧ c ≠ 10 ∧ c ≠ 32 ∧ c ≠ 9 ∧ c ≠ 13 := by decide
theorem ap1 {u r : List UInt8} {c : UInt8} {p : Nat} (h : u.drop p = c :: r) (hc : c ≠ 35 ∧ c ≠ 10 ∧ c ≠ 32 ∧ c ≠ 9 ∧ c ≠ 13) : o1 u (p : Int) = p := by
 unfold o1
 rw [Int.toNat_natCast, h, aa7]
 simp [hc]
end Go.Proofs.YtifajndacnfcbaaDoor
namespace Go.Proofs.YtifajndacnfcbaaDoor
open Go Go.RowKit
mutual
def WXt (ts : List Tok) : Ex → Prop
 | .name p s => ((1, p, s) : Tok) ∈ ts ∧ e8 s = 0
 | .text p s => ((2, p, s) : Tok) ∈ ts
 | .regex p s => ((3, p, s) : Tok) ∈ ts
 | .keyed p a => (∃ k, p = (a8 ts k).2.1) ∧ WXt ts a
 | .unary p o a => ((∃ k, p = (a8 ts k).2.1) ∧ (o = [42] ∨ o = [43] ∨ o = [63])) ∧ WXt ts a
 | .binary p o a b => ((∃ k, p = (a8 ts k).2.1) ∧ aci o ∧ 0 ≤ d8 o) ∧ WXt ts a ∧ WXt ts b
 | .call p w l => ((1, p, w) : Tok) ∈ ts ∧ 0 < e8 w ∧ (l.len : Int) = e8 w ∧ WXl ts l
def WXl (ts : List Tok) : ExL → Prop
 | .nil => True
 | .cons a r => WXt ts a ∧ WXl ts r
end
theorem WXl.snoc {ts : List Tok} {b : Ex} (hb : WXt ts b) : ∀ {l : ExL}, WXl ts l → WXl ts (l.snoc b)
 | .nil, _ => by rw [ExL.snoc, WXl, WXl]; exact ⟨hb, trivial⟩
 | .cons a r, h => by rw [WXl] at h; rw [ExL.snoc, WXl]; exact ⟨h.1, WXl.snoc hb h.2⟩
theorem ant (b : Ex) : ∀ l : ExL, wL (l.snoc b) = wL l + wX b + 1
 | .nil => by simp only [ExL.snoc, wL]; omega
 | .cons a r => by simp only [ExL.snoc, wL, ant b r]; omega
def at6 : Ex → Int
 | .name p _ => p
 | .text p _ => p
 | .regex p _ => p
 | .keyed p _ => p
 | .unary p _ _ => p
 | .binary p _ _ _ => p
 | .call p _ _ => p
theorem ao7 {o : Bs} (h : 0 ≤ d8 o) : aci o := by
 unfold d8 at h
 split at h
 ·rename_i h1; exact .inr ⟨_, h1⟩
 ·split at h
  ·rename_i h1; rcases h1 with h1 | h1 <;> exact .inr ⟨_, h1⟩
  ·split at h
   ·rename_i h1; exact .inl h1
   ·split at h
    ·rename_i h1; exact .inr ⟨_, h1⟩
    ·split at h
     ·rename_i h1; exact .inr ⟨_, h1⟩
     ·omega
theorem ag2 {ts : List Tok} {k : Nat} {j : Int} (h : (a8 ts k).1 = j) (hj : j ≠ 0) : ((j, (a8 ts k).2.1, (a8 ts k).2.2) : Tok) ∈ ts := by
 have := ag0 (agc (ts := ts) (k := k) (by rw [h]; exact hj))
 rw [← h]; exact this
structure Wf (ts : List Tok) (f : Nat) : Prop where
 e : ∀ l q a q1, pE ts f l q = .ok (a, q1) → WXt ts a ∧ q.1 + wX a ≤ q1.1
 l : ∀ l b q a q1, WXt ts b → pL ts f l b q = .ok (a, q1) → WXt ts a ∧ q.1 + wX a ≤ q1.1 + wX b
 p : ∀ q a q1, pP ts f q = .ok (a, q1) → WXt ts a ∧ q.1 + wX a ≤ q1.1
 s : ∀ b q a q1, WXt ts b → pS ts f b q = .ok (a, q1) → WXt ts a ∧ q.1 + wX a ≤ q1.1 + wX b
 a : ∀ q a q1, pA ts f q = .ok (a, q1) → WXt ts a ∧ q.1 + wX a ≤ q1.1
 c : ∀ q a q1, (a8 ts q.1).1 = 1 → 0 < e8 (a8 ts q.1).2.2 → pC ts f q = .ok (a, q1) → WXt ts a ∧ q.1 + wX a ≤ q1.1
 r : ∀ n b q a q1, WXl ts b → b.len ≤ n → pR ts f n b q = .ok (a, q1) → (WXl ts a ∧ a.len = n) ∧ q.1 + wL a ≤ q1.1 + wL b + (if b.len = 0 then 1 else 0)
theorem wf (ts : List Tok) : ∀ f, Wf ts f := by
 intro f
 induction f with
 | zero =>
  refine ⟨?_, ?_, ?_, ?_, ?_, ?_, ?_⟩ <;> intros <;> rename_i h <;> first | (rw [pE] at h; cases h; done) | (rw [pL] at h; cases h; done) | (rw [pP] at h; cases h; done) | (rw [pS] at h; cases h; done) | (rw [pA] at h; cases h; done) | (rw [pC] at h; cases h; done) | (rw [pR] at h; cases h; done)
 | succ f ih =>
  refine ⟨fun l q a q1 h => ?_, fun l b q a q1 hb h => ?_, fun q a q1 h => ?_, fun b q a q1 hb h => ?_, fun q a q1 h => ?_, fun q a q1 hk ha h => ?_, fun n b q a q1 hb hn h => ?_⟩
  ·rw [pE] at h
   split at h
   ·exact ih.p _ _ _ h
   ·split at h
    ·cases h
    ·rename_i a2 q2 h2
     obtain ⟨e1, e2⟩ := ih.e _ _ _ _ h2
     obtain ⟨g1, g2⟩ := ih.l _ _ _ _ _ e1 h
     exact ⟨g1, by omega⟩
  ·rw [pL] at h
   split at h
   ·rename_i hm
    split at h
    ·cases h
    ·rename_i a2 q2 h2
     obtain ⟨e1, e2⟩ := ih.e _ _ _ _ h2
     dsimp only at e2
     have hr : 0 ≤ d8 (a8 ts q.1).2.2 := by rw [hm.2]; omega
     obtain ⟨g1, g2⟩ := ih.l _ _ _ _ _ (by rw [WXt]; exact ⟨⟨⟨_, rfl⟩, ao7 hr, hr⟩, hb, e1⟩) h
     rw [wX] at g2
     exact ⟨g1, by omega⟩
   ·cases h; exact ⟨hb, Nat.le_refl _⟩
  ·rw [pP] at h
   split at h
   ·cases h
   ·rename_i a2 q2 h2
    obtain ⟨e1, e2⟩ := ih.a _ _ _ h2
    obtain ⟨g1, g2⟩ := ih.s _ _ _ _ e1 h
    exact ⟨g1, by omega⟩
  ·rw [pS] at h
   split at h
   ·rename_i hm
    obtain ⟨g1, g2⟩ := ih.s _ _ _ _ (by
     rw [WXt]
     refine ⟨⟨⟨_, rfl⟩, ?_⟩, hb⟩
     rcases hm with hm | hm | hm
     ·exact .inl (q9 hm).2.1
     ·exact .inr (.inl (q9 hm).2.1)
     ·exact .inr (.inr (q9 hm).2.1)) h
    rw [wX] at g2
    dsimp only at g2
    exact ⟨g1, by omega⟩
   ·cases h; exact ⟨hb, Nat.le_refl _⟩
  ·rw [pA] at h
   split at h
   ·rename_i h1; cases h; rw [WXt, wX]; exact ⟨ag2 h1 (by decide), Nat.le_refl _⟩
   ·split at h
    ·rename_i h1; cases h; rw [WXt, wX]; exact ⟨ag2 h1 (by decide), Nat.le_refl _⟩
    ·split at h
     ·rename_i h1; exact ih.c _ _ _ h1.1 h1.2 h
     ·split at h
      ·rename_i h1; cases h; rw [WXt, wX]; exact ⟨⟨ag2 h1.1 (by decide), h1.2⟩, Nat.le_refl _⟩
      ·split at h
       ·split at h
        ·cases h
        ·rename_i q2 h2
         obtain ⟨b1, b2, rfl⟩ := s8 h2
         split at h
         ·cases h
         ·rename_i a3 q3 h3
          obtain ⟨e1, e2⟩ := ih.e _ _ _ _ h3
          split at h
          ·cases h
          ·rename_i q4 h4
           obtain ⟨c1, rfl⟩ := abm h4
           cases h
           rw [WXt, wX]
           exact ⟨⟨⟨_, rfl⟩, e1⟩, by dsimp only at e2 ⊢; omega⟩
       ·split at h
        ·split at h
         ·cases h
         ·rename_i q2 h2
          obtain ⟨b1, b2, rfl⟩ := s8 h2
          split at h
          ·cases h
          ·rename_i a3 q3 h3
           obtain ⟨e1, e2⟩ := ih.e _ _ _ _ h3
           split at h
           ·cases h
           ·rename_i q4 h4
            obtain ⟨c1, rfl⟩ := abm h4
            cases h
            exact ⟨e1, by dsimp only at e2 ⊢; omega⟩
        ·cases h
  ·rw [pC] at h
   split at h
   ·cases h
   ·rename_i q2 h2
    obtain ⟨b1, b2, rfl⟩ := s8 h2
    split at h
    ·cases h
    ·rename_i a3 q3 h3
     obtain ⟨⟨e1, e2⟩, e3⟩ := ih.r _ _ _ _ _ (by rw [WXl]; trivial) (Nat.zero_le _) h3
     rw [if_pos (show ExL.nil.len = 0 from rfl), show wL .nil = 0 by rw [wL]] at e3
     split at h
     ·cases h
     ·rename_i q4 h4
      obtain ⟨c1, rfl⟩ := abm h4
      cases h
      rw [WXt, wX]
      exact ⟨⟨ag2 hk (by decide), ha, by omega, e1⟩, by dsimp only at e3 ⊢; omega⟩
  ·rw [pR] at h
   split at h
   ·rename_i h0; cases h; exact ⟨⟨hb, by omega⟩, by split <;> omega⟩
   ·rename_i h0
    split at h
    ·cases h
    ·rename_i q2 h2
     have hq2 : q.1 + (if b.len = 0 then 0 else 1) ≤ q2.1 := by
      split at h2
      ·obtain ⟨_, rfl⟩ := aab h2; dsimp only; split <;> omega
      ·cases h2; split <;> omega
     split at h
     ·cases h
     ·rename_i a3 q3 h3
      obtain ⟨e1, e2⟩ := ih.e _ _ _ _ h3
      obtain ⟨g1, g2⟩ := ih.r _ _ _ _ _ (hb.snoc e1) (by rw [ExL.len_snoc]; omega) h
      rw [ant, if_neg (by rw [ExL.len_snoc]; omega)] at g2
      exact ⟨g1, by split at hq2 <;> split <;> omega⟩
mutual
theorem WXt.ok {ts : List Tok} (h : ∀ k ∈ ts, k.2.2.length ≤ 4096) : ∀ (e : Ex), WXt ts e → OKX e
 | .name p s, hw => by rw [WXt] at hw; rw [OKX]; exact h _ hw.1
 | .text p s, hw => by rw [WXt] at hw; rw [OKX]; exact h _ hw
 | .regex p s, hw => by rw [WXt] at hw; rw [OKX]; exact h _ hw
 | .keyed p a, hw => by rw [WXt] at hw; rw [OKX]; exact WXt.ok h a hw.2
 | .unary p o a, hw => by rw [WXt] at hw; rw [OKX]; exact ⟨by rcases hw.1.2 with rfl | rfl | rfl <;> decide, WXt.ok h a hw.2⟩
 | .binary p o a b, hw => by rw [WXt] at hw; rw [OKX]; exact ⟨hw.1.2, WXt.ok h a hw.2.1, WXt.ok h b hw.2.2⟩
 | .call p w l, hw => by rw [WXt] at hw; rw [OKX]; exact ⟨h _ hw.1, WXl.ok h l hw.2.2.2⟩
theorem WXl.ok {ts : List Tok} (h : ∀ k ∈ ts, k.2.2.length ≤ 4096) : ∀ (l : ExL), WXl ts l → OKL l
 | .nil, _ => by rw [OKL]; trivial
 | .cons a r, hw => by rw [WXl] at hw; rw [OKL]; exact ⟨WXt.ok h a hw.1, WXl.ok h r hw.2⟩
end
def WDs (ts : List Tok) (l : List p3) : Prop := ∀ d ∈ l, (((1, d.1, d.2.1) : Tok) ∈ ts ∧ e8 d.2.1 = 0) ∧ WXt ts d.2.2
theorem an2 (d : p3) : ∀ l : List p3, wD (l ++ [d]) = wD l + wX d.2.2 + 1
 | [] => by simp only [List.nil_append, wD]; omega
 | x :: r => by simp only [List.cons_append, wD, an2 d r]; omega
theorem as0 {ts : List Tok} : ∀ {f : Nat} {l : List p3} {q : PSx} {l2 : List p3} {q2 : PSx}, WDs ts l → pD ts (BIG ts) f l q = .ok (l2, q2) → WDs ts l2 ∧ q.1 + wD l2 ≤ q2.1 + wD l
 | 0, _, _, _, _, _, h => by rw [pD] at h; cases h
 | f + 1, l, q, l2, q2, hl, h => by
  rw [ak9] at h
  split at h
  ·split at h
   ·cases h
   ·rename_i hk
    have hk1 : (a8 ts (q.1 + 1)).1 = 1 ∧ e8 (a8 ts (q.1 + 1)).2.2 = 0 := by
     rw [not_or] at hk; exact ⟨Decidable.not_not.1 hk.1, Decidable.not_not.1 hk.2⟩
    split at h
    ·cases h
    ·rename_i q3 h3
     obtain ⟨_, rfl⟩ := aab h3
     split at h
     ·cases h
     ·rename_i b q4 h4
      obtain ⟨e1, e2⟩ := (wf ts _).e _ _ _ _ h4
      split at h
      ·cases h
      ·rename_i q5 h5
       obtain ⟨_, rfl⟩ := aab h5
       have := as0 (fun d hd => by
        rcases List.mem_append.1 hd with hd | hd
        ·exact hl d hd
        ·rw [List.mem_singleton.1 hd]; exact ⟨⟨ag2 hk1.1 (by decide), hk1.2⟩, e1⟩) h
       rw [an2] at this
       exact ⟨this.1, by dsimp only at e2 this ⊢; omega⟩
  ·cases h; exact ⟨hl, Nat.le_refl _⟩
theorem ao0 {ts : List Tok} {l : List p3} {a : Ex} (h : w6 ts = .ok (l, a)) : WDs ts l ∧ WXt ts a ∧ wD l + wX a ≤ ts.length := by
 rw [abr] at h
 unfold al9 at h
 split at h
 ·cases h
 ·rename_i l2 q h2
  obtain ⟨h3, h4⟩ := as0 (fun d hd => by cases hd) h2
  split at h
  ·cases h
  ·rename_i a2 q1 h5
   obtain ⟨e1, e2⟩ := (wf ts _).e _ _ _ _ h5
   have h6 := (abu h5).2.1
   split at h
   ·cases h
    rw [wD] at h4
    dsimp only at h4
    exact ⟨h3, e1, by omega⟩
   ·cases h
theorem ani {t : List UInt8} (h : (e6 t).2.1 = 0) : ∀ k ∈ (e6 t).1, k.2.2.length ≤ 4096 := by
 have hs := ab0 h
 have hg := o5 (t := t) (a := 0) ⟨by omega, by omega⟩
 obtain ⟨ks, e, hk⟩ := ahd hg.1 hg.2 (abo h hs) (fun k hk => by cases hk)
 rw [e]
 intro x hx
 rcases List.mem_append.1 hx with hx | hx
 ·have := (hk x hx).2; omega
 ·rw [List.mem_singleton.1 hx]; exact Nat.zero_le _
theorem ai3 {t : List UInt8} {l : List p3} {a : Ex} (h : n0 t = .ok (l, a)) : (e6 t).2.1 = 0 ∧ w6 (e6 t).1 = .ok (l, a) := by
 unfold n0 at h
 split at h
 ·rename_i h0; exact ⟨h0, h⟩
 ·cases h
theorem ac2 {t : List UInt8} {l : List p3} {a : Ex} (h : n0 t = .ok (l, a)) : OKP l a := by
 obtain ⟨h0, h1⟩ := ai3 h
 obtain ⟨h2, h3, h4⟩ := ao0 h1
 have hs := ani h0
 have hlen := aji t
 exact ⟨fun d hd => ⟨hs _ (h2 d hd).1.1, WXt.ok hs _ (h2 d hd).2⟩, WXt.ok hs _ h3, by omega⟩
end Go.Proofs.YtifajndacnfcbaaDoor
set_option maxRecDepth 100000
namespace Go.Proofs.YtifajndacnfcbaaDoor
open Go Go.RowKit
theorem aio : g0 Tryd.prog 71 0 = some 0 := by kernel_rfl
theorem aib : g0 Tryd.prog 73 0 = some 0 := by kernel_rfl
theorem air : g0 Tryd.prog 74 0 = some 0 := by kernel_rfl
theorem aia : g0 Tryd.prog 76 0 = some 0 := by kernel_rfl
theorem ah2 : g0 Tryd.prog 78 0 = some 0 := by kernel_rfl
theorem aic : g0 Tryd.prog 80 0 = some 0 := by kernel_rfl
theorem aid : g0 Tryd.prog 83 0 = some 0 := by kernel_rfl
def acw (e_0 : Int) (_ : List UInt8) (K : Int → Prop) : Prop :=
 K e_0
theorem ajp  (e_0 : Int) (e_1 : List UInt8) (K : Int → Prop) (h : acw e_0 e_1 K) :
  d9 Tryd.prog 23 [Value.agg [zI e_0, st e_1].toArray] [] [] (fun o => (∃ (v : Int), K v ∧ o = .ret (zI v) []) ∨ (False)) := by
 unfold acw at h
 refine b9 (n := 5) (L0 := [(0, Value.agg [zI e_0, st e_1].toArray)]) Tryd.func23 rfl rfl rfl rfl (fun w0 M Q hE => ?_)
 refine a7 (fun _ hK => ?_)
 refine a6 ?_
 refine WL.make (MV.box (cs := [zI e_0, st e_1]) rfl rfl) rfl rfl rfl (fun b => ?_)
 refine wA ?_
 refine WL.nil ?_
 refine kg (hK [(1, zP b)] _ ?_)
 refine a7 (fun _ hK_1' => ?_)
 refine a6 ?_
 refine wv (OV.fieldAddr0 rfl aio) ?_
 refine wv (OV.load rfl (At.own 0 rfl) rfl b6) ?_
 refine wA ?_
 refine WL.nil ?_
 refine kg (hK_1' [(2, zI e_0)] _ ?_)
 refine c7 ?_
 exact hE.ret [] rfl rfl (.inl ⟨_, h, rfl⟩) (e9.of1 rfl (RV.tmp rfl))
def ac9 (e_0 : Int) (_ : List UInt8) (K : Int → Prop) : Prop :=
 K e_0
theorem akp  (e_0 : Int) (e_1 : List UInt8) (K : Int → Prop) (h : ac9 e_0 e_1 K) :
  d9 Tryd.prog 24 [Value.agg [zI e_0, st e_1].toArray] [] [] (fun o => (∃ (v : Int), K v ∧ o = .ret (zI v) []) ∨ (False)) := by
 unfold ac9 at h
 refine b9 (n := 5) (L0 := [(0, Value.agg [zI e_0, st e_1].toArray)]) Tryd.func24 rfl rfl rfl rfl (fun w0 M Q hE => ?_)
 refine a7 (fun _ hK => ?_)
 refine a6 ?_
 refine WL.make (MV.box (cs := [zI e_0, st e_1]) rfl rfl) rfl rfl rfl (fun b => ?_)
 refine wA ?_
 refine WL.nil ?_
 refine kg (hK [(1, zP b)] _ ?_)
 refine a7 (fun _ hK_1' => ?_)
 refine a6 ?_
 refine wv (OV.fieldAddr0 rfl aib) ?_
 refine wv (OV.load rfl (At.own 0 rfl) rfl b6) ?_
 refine wA ?_
 refine WL.nil ?_
 refine kg (hK_1' [(2, zI e_0)] _ ?_)
 refine c7 ?_
 exact hE.ret [] rfl rfl (.inl ⟨_, h, rfl⟩) (e9.of1 rfl (RV.tmp rfl))
def ab6 (e_0 : Int) (_ : List UInt8) (K : Int → Prop) : Prop :=
 K e_0
theorem ah3  (e_0 : Int) (e_1 : List UInt8) (K : Int → Prop) (h : ab6 e_0 e_1 K) :
  d9 Tryd.prog 25 [Value.agg [zI e_0, st e_1].toArray] [] [] (fun o => (∃ (v : Int), K v ∧ o = .ret (zI v) []) ∨ (False)) := by
 unfold ab6 at h
 refine b9 (n := 5) (L0 := [(0, Value.agg [zI e_0, st e_1].toArray)]) Tryd.func25 rfl rfl rfl rfl (fun w0 M Q hE => ?_)
 refine a7 (fun _ hK => ?_)
 refine a6 ?_
 refine WL.make (MV.box (cs := [zI e_0, st e_1]) rfl rfl) rfl rfl rfl (fun b => ?_)
 refine wA ?_
 refine WL.nil ?_
 refine kg (hK [(1, zP b)] _ ?_)
 refine a7 (fun _ hK_1' => ?_)
 refine a6 ?_
 refine wv (OV.fieldAddr0 rfl air) ?_
 refine wv (OV.load rfl (At.own 0 rfl) rfl b6) ?_
 refine wA ?_
 refine WL.nil ?_
 refine kg (hK_1' [(2, zI e_0)] _ ?_)
 refine c7 ?_
 exact hE.ret [] rfl rfl (.inl ⟨_, h, rfl⟩) (e9.of1 rfl (RV.tmp rfl))
def acb (e_0 : Int) (_ : Value) (K : Int → Prop) : Prop :=
 K e_0
theorem ah9  (e_0 : Int) (e_1 : Value) (K : Int → Prop) (h : acb e_0 e_1 K) :
  d9 Tryd.prog 26 [Value.agg [zI e_0, e_1].toArray] [] [] (fun o => (∃ (v : Int), K v ∧ o = .ret (zI v) []) ∨ (False)) := by
 unfold acb at h
 refine b9 (n := 5) (L0 := [(0, Value.agg [zI e_0, e_1].toArray)]) Tryd.func26 rfl rfl rfl rfl (fun w0 M Q hE => ?_)
 refine a7 (fun _ hK => ?_)
 refine a6 ?_
 refine WL.make (MV.box (cs := [zI e_0, e_1]) rfl rfl) rfl rfl rfl (fun b => ?_)
 refine wA ?_
 refine WL.nil ?_
 refine kg (hK [(1, zP b)] _ ?_)
 refine a7 (fun _ hK_1' => ?_)
 refine a6 ?_
 refine wv (OV.fieldAddr0 rfl aia) ?_
 refine wv (OV.load rfl (At.own 0 rfl) rfl b6) ?_
 refine wA ?_
 refine WL.nil ?_
 refine kg (hK_1' [(2, zI e_0)] _ ?_)
 refine c7 ?_
 exact hE.ret [] rfl rfl (.inl ⟨_, h, rfl⟩) (e9.of1 rfl (RV.tmp rfl))
def acc (e_0 : Int) (_ : List UInt8) (_ : Value) (K : Int → Prop) : Prop :=
 K e_0
theorem ail  (e_0 : Int) (e_1 : List UInt8) (e_2 : Value) (K : Int → Prop) (h : acc e_0 e_1 e_2 K) :
  d9 Tryd.prog 27 [Value.agg [zI e_0, st e_1, e_2].toArray] [] [] (fun o => (∃ (v : Int), K v ∧ o = .ret (zI v) []) ∨ (False)) := by
 unfold acc at h
 refine b9 (n := 5) (L0 := [(0, Value.agg [zI e_0, st e_1, e_2].toArray)]) Tryd.func27 rfl rfl rfl rfl (fun w0 M Q hE => ?_)
 refine a7 (fun _ hK => ?_)
 refine a6 ?_
 refine WL.make (MV.box (cs := [zI e_0, st e_1, e_2]) rfl rfl) rfl rfl rfl (fun b => ?_)
 refine wA ?_
 refine WL.nil ?_
 refine kg (hK [(1, zP b)] _ ?_)
 refine a7 (fun _ hK_1' => ?_)
 refine a6 ?_
 refine wv (OV.fieldAddr0 rfl ah2) ?_
 refine wv (OV.load rfl (At.own 0 rfl) rfl b6) ?_
 refine wA ?_
 refine WL.nil ?_
 refine kg (hK_1' [(2, zI e_0)] _ ?_)
 refine c7 ?_
 exact hE.ret [] rfl rfl (.inl ⟨_, h, rfl⟩) (e9.of1 rfl (RV.tmp rfl))
def abj (e_0 : Int) (_ : List UInt8) (_ : Value) (_ : Value) (K : Int → Prop) : Prop :=
 K e_0
theorem ahz  (e_0 : Int) (e_1 : List UInt8) (e_2 : Value) (e_3 : Value) (K : Int → Prop) (h : abj e_0 e_1 e_2 e_3 K) :
  d9 Tryd.prog 28 [Value.agg [zI e_0, st e_1, e_2, e_3].toArray] [] [] (fun o => (∃ (v : Int), K v ∧ o = .ret (zI v) []) ∨ (False)) := by
 unfold abj at h
 refine b9 (n := 5) (L0 := [(0, Value.agg [zI e_0, st e_1, e_2, e_3].toArray)]) Tryd.func28 rfl rfl rfl rfl (fun w0 M Q hE => ?_)
 refine a7 (fun _ hK => ?_)
 refine a6 ?_
 refine WL.make (MV.box (cs := [zI e_0, st e_1, e_2, e_3]) rfl rfl) rfl rfl rfl (fun b => ?_)
 refine wA ?_
 refine WL.nil ?_
 refine kg (hK [(1, zP b)] _ ?_)
 refine a7 (fun _ hK_1' => ?_)
 refine a6 ?_
 refine wv (OV.fieldAddr0 rfl aic) ?_
 refine wv (OV.load rfl (At.own 0 rfl) rfl b6) ?_
 refine wA ?_
 refine WL.nil ?_
 refine kg (hK_1' [(2, zI e_0)] _ ?_)
 refine c7 ?_
 exact hE.ret [] rfl rfl (.inl ⟨_, h, rfl⟩) (e9.of1 rfl (RV.tmp rfl))
def ac4 (e_0 : Int) (_ : List UInt8) (_ : Value) (K : Int → Prop) : Prop :=
 K e_0
theorem aka  (e_0 : Int) (e_1 : List UInt8) (e_2 : Value) (K : Int → Prop) (h : ac4 e_0 e_1 e_2 K) :
  d9 Tryd.prog 29 [Value.agg [zI e_0, st e_1, e_2].toArray] [] [] (fun o => (∃ (v : Int), K v ∧ o = .ret (zI v) []) ∨ (False)) := by
 unfold ac4 at h
 refine b9 (n := 5) (L0 := [(0, Value.agg [zI e_0, st e_1, e_2].toArray)]) Tryd.func29 rfl rfl rfl rfl (fun w0 M Q hE => ?_)
 refine a7 (fun _ hK => ?_)
 refine a6 ?_
 refine WL.make (MV.box (cs := [zI e_0, st e_1, e_2]) rfl rfl) rfl rfl rfl (fun b => ?_)
 refine wA ?_
 refine WL.nil ?_
 refine kg (hK [(1, zP b)] _ ?_)
 refine a7 (fun _ hK_1' => ?_)
 refine a6 ?_
 refine wv (OV.fieldAddr0 rfl aid) ?_
 refine wv (OV.load rfl (At.own 0 rfl) rfl b6) ?_
 refine wA ?_
 refine WL.nil ?_
 refine kg (hK_1' [(2, zI e_0)] _ ?_)
 refine c7 ?_
 exact hE.ret [] rfl rfl (.inl ⟨_, h, rfl⟩) (e9.of1 rfl (RV.tmp rfl))
abbrev plX : Ex → Int := at6
theorem aal {v : Int} {x : Out} (h : (∃ d : Int, d = v ∧ x = .ret (.int .i64 d) []) ∨ False) : x = .ret (.int .i64 v) [] := by
 rcases h with ⟨d, rfl, rfl⟩ | h
 ·rfl
 ·exact h.elim
theorem ar2 : aee Tryd.prog 71 "Place" = some 23 := by kernel_rfl
theorem asw : ab9 Tryd.prog 71 = true := by kernel_rfl
theorem asp : l6 Tryd.prog 23 = true := by kernel_rfl
theorem ase : aee Tryd.prog 73 "Place" = some 24 := by kernel_rfl
theorem asb : ab9 Tryd.prog 73 = true := by kernel_rfl
theorem ast : l6 Tryd.prog 24 = true := by kernel_rfl
theorem aqi : aee Tryd.prog 74 "Place" = some 25 := by kernel_rfl
theorem aqy : ab9 Tryd.prog 74 = true := by kernel_rfl
theorem aqc : l6 Tryd.prog 25 = true := by kernel_rfl
theorem arq : aee Tryd.prog 76 "Place" = some 26 := by kernel_rfl
theorem apx : ab9 Tryd.prog 76 = true := by kernel_rfl
theorem arl : l6 Tryd.prog 26 = true := by kernel_rfl
theorem are : aee Tryd.prog 78 "Place" = some 27 := by kernel_rfl
theorem ap4 : ab9 Tryd.prog 78 = true := by kernel_rfl
theorem aqq : l6 Tryd.prog 27 = true := by kernel_rfl
theorem apq : aee Tryd.prog 80 "Place" = some 28 := by kernel_rfl
theorem ao6 : ab9 Tryd.prog 80 = true := by kernel_rfl
theorem apj : l6 Tryd.prog 28 = true := by kernel_rfl
theorem ar3 : aee Tryd.prog 83 "Place" = some 29 := by kernel_rfl
theorem aru : ab9 Tryd.prog 83 = true := by kernel_rfl
theorem asu : l6 Tryd.prog 29 = true := by kernel_rfl
theorem anw {B : List (Nat × Obj)} {e : Ex} {u : Value} (h : TV B e u) : aqo Tryd.prog u "Place" [] (.int .i64 (plX e)) := by
 cases e with
 | name p s =>
  rw [TV] at h; subst h
  exact ⟨_, _, _, rfl, ar2, asw, asp, (ajp p s (fun d => d = p) (by unfold acw; rfl)).weak fun x h => aal h⟩
 | text p s =>
  rw [TV] at h; subst h
  exact ⟨_, _, _, rfl, ase, asb, ast, (akp p s (fun d => d = p) (by unfold ac9; rfl)).weak fun x h => aal h⟩
 | regex p s =>
  rw [TV] at h; subst h
  exact ⟨_, _, _, rfl, aqi, aqy, aqc, (ah3 p s (fun d => d = p) (by unfold ab6; rfl)).weak fun x h => aal h⟩
 | keyed p a =>
  rw [TV] at h; obtain ⟨u1, _, rfl⟩ := h
  exact ⟨_, _, _, rfl, arq, apx, arl, (ah9 p u1 (fun d => d = p) (by unfold acb; rfl)).weak fun x h => aal h⟩
 | unary p o a =>
  rw [TV] at h; obtain ⟨u1, _, rfl⟩ := h
  exact ⟨_, _, _, rfl, are, ap4, aqq, (ail p o u1 (fun d => d = p) (by unfold acc; rfl)).weak fun x h => aal h⟩
 | binary p o a b =>
  rw [TV] at h; obtain ⟨u1, u2, _, _, rfl⟩ := h
  exact ⟨_, _, _, rfl, apq, ao6, apj, (ahz p o u1 u2 (fun d => d = p) (by unfold abj; rfl)).weak fun x h => aal h⟩
 | call p w l =>
  rw [TV] at h; obtain ⟨us, u1, b, cs, _, _, _, rfl⟩ := h
  exact ⟨_, _, _, rfl, ar3, aru, asu, (aka p w u1 (fun d => d = p) (by unfold ac4; rfl)).weak fun x h => aal h⟩
theorem aq3 {B : List (Nat × Obj)} {e : Ex} {u : Value} (h : TV B e u) : ∃ T v, u = Value.iface T v := by
 obtain ⟨_, T, r, h1, _⟩ := anw h
 exact ⟨T, r, h1⟩
end Go.Proofs.YtifajndacnfcbaaDoor
namespace Go.Proofs.YtifajndacnfcbaaDoor
open Go Go.RowKit
section
variable {P : Program} {ops : Array Oper} {Q : Exit → Act → World → Prop} {C : Cx} {L : Sl} {H : List HA} {rest : List Oper} {o : Oper}
theorem At.pool {B : List (Nat × Obj)} {b : Nat} {ob : Obj} (i : Nat) (hi : H[i]? = some (pool B)) (hb : (b, ob) ∈ B) : At C H b ob := fun w hp => by
 obtain ⟨F, h1, _⟩ := hp.own
 exact (h1.mem_pool hi _ hb).1
def aix (C : Cx) (H : List HA) (R : List (Nat × Obj)) : Prop := ∀ q ∈ R, At C H q.1 q.2
theorem aix.pool {B R2 : List (Nat × Obj)} (i : Nat) (hi : H[i]? = some (pool B)) (hr : ∀ q ∈ R2, q ∈ C.R) : aix C H (B ++ R2) := fun q hq => by
 rcases List.mem_append.1 hq with hq | hq
 ·exact At.pool i hi hq
 ·exact At.old (hr q hq)
section
variable {x y : Operand} {ty t e' : TypeId} {p : String} {e : Array Edge} {g : Option (Nat × Bool)} {d : Option Tmp} {v u : Value} {T sz n : Nat} {xs : List Value} {B1 : List (Nat × Obj)} {kk : IntKind}
theorem OV.lenLaid (hx : ev L x = some v) (ht : slB P t e' sz = true) (hl : agf v T sz n xs B1) : OV P C L H ⟨d, .call ⟨.builtin .len, #[x], #[t]⟩, ty, p, e, g⟩ (.int .i64 (n : Int)) := by
 rcases hl with ⟨rfl, rfl, _⟩ | ⟨b, cs, ⟨cap, rfl, _⟩, _⟩
 ·exact OV.lenS hx ht
 ·exact OV.lenS hx ht
end
end
theorem OV.neqNilX {P : Program} {C : Cx} {L : Sl} {H : List HA} {x y : Operand} {t t' ty : TypeId} {d : Option Tmp} {p : String} {e : Array Edge} {g : Option (Nat × Bool)} {m : Value} {ms : Array (String × TypeId)} (hx : ev L x = some m) (hm : ∃ T u, m = .iface T u) (hu : P.underlying t = some (.interface ms)) (hy : ev L y = some .nilIface := by rfl) : OV P C L H ⟨d, .binOp .neq t x y t', ty, p, e, g⟩ (.bool true) := by
 obtain ⟨T, u, rfl⟩ := hm
 exact OV.neqNil hx hy hu
theorem abn.more {B B2 : List (Nat × Obj)} {b : Nat} {w m : Value} {ds : List aay} {B1 : List (Nat × Obj)} {l : List p3} {a : Ex} (h : ∀ p ∈ B, p ∈ B2) (hp : abn B b w m ds B1 l a) : abn B2 b w m ds B1 l a :=
 ⟨hp.1.more h, TV.more h _ _ hp.2.1, hp.2.2.1, fun p hq => h _ (hp.2.2.2.1 p hq), h _ hp.2.2.2.2⟩
theorem ad5 (te : TypeId) (fre : Nat × Nat) (t : List UInt8) (B : List (Nat × Obj)) (l : List p3) (a : Ex) (h : n0 t = .ok (l, a)) : d9 Tryd.prog 9 [st t] (ab2 te fre) [pool B]
  (fun o => ∃ b dw m ds B1 B2, (abn B2 b dw m ds B1 l a ∧ ∀ x ∈ B, x ∈ B2) ∧ o = .ret (.tuple #[.pointer (some ⟨b, 0, none⟩), .agg [Value.int .i64 0, Value.int .i64 0, st []].toArray]) [pool B2]) :=
 (agd te fre t B).weak fun o ho => by
  rcases ho with ⟨l2, a2, b, w, m, ds, B1, B2, ⟨h1, h2, h3⟩, rfl⟩ | ⟨c, p, B2, ⟨h1, _⟩, rfl⟩
  ·rw [h] at h1; cases h1; exact ⟨b, w, m, ds, B1, B2, ⟨h2, h3⟩, rfl⟩
  ·rw [h] at h1; cases h1
theorem anf (te : TypeId) (fre : Nat × Nat) (t : List UInt8) (B : List (Nat × Obj)) (c p : Int) (h : n0 t = .error (c, p)) : d9 Tryd.prog 9 [st t] (ab2 te fre) [pool B]
  (fun o => ∃ B2, True ∧ o = .ret (.tuple #[.pointer none, .agg [Value.int .i64 c, Value.int .i64 p, st []].toArray]) [pool B2]) :=
 (agd te fre t B).weak fun o ho => by
  rcases ho with ⟨l2, a2, b, w, m, ds, B1, B2, ⟨h1, h2, h3⟩, rfl⟩ | ⟨c2, p2, B2, ⟨h1, _⟩, rfl⟩
  ·rw [h] at h1; cases h1
  ·rw [h] at h1; cases h1; exact ⟨B2, trivial, rfl⟩
end Go.Proofs.YtifajndacnfcbaaDoor
set_option maxRecDepth 100000
namespace Go.Proofs.YtifajndacnfcbaaDoor
open Go Go.RowKit
theorem ado : l6 Tryd.prog 9 = true := by kernel_rfl
theorem ad7 : l6 Tryd.prog 12 = true := by kernel_rfl
def aeu (l1 : List p3) (a1 : Ex) (K : Bool → Prop) : Prop :=
 (n0 ([97, 46, 40, 98, 124, 99, 41] : List UInt8) = .ok (l1, a1)) ∧
 (∀ (qb1 : Nat) (dw1 : Value) (mv1 : Value) (ds1 : List aay) (R1 : List (Nat × Obj)) (B : List (Nat × Obj)), (abn B qb1 dw1 mv1 ds1 R1 l1 a1 ∧ ∀ x ∈ ([] : List (Nat × Obj)), x ∈ B) →
  ((qb1, Obj.cells [dw1, mv1].toArray 39 (0, 0)) ∈ B) ∧
  (∃ T u, mv1 = Value.iface T u) ∧
  ((qb1, Obj.cells [dw1, mv1].toArray 39 (0, 0)) ∈ B) ∧
  (aqo Tryd.prog mv1 "Place" [] (zI (plX a1))) ∧
  ((decide (plX a1 = 1)) = true → (abn B qb1 dw1 mv1 ds1 R1 l1 a1 ∧ OKP l1 a1)) ∧
  K ((decide (plX a1 = 1)) && (decide (c8 l1 a1 = ([97, 32, 46, 32, 40, 98, 32, 124, 32, 99, 41, 10] : List UInt8)))))
theorem al7 (te : TypeId) (fre : Nat × Nat) (l1 : List p3) (a1 : Ex) (K : Bool → Prop) (h : aeu l1 a1 K) :
  d9 Tryd.prog 8 [] [(0, .cells [st ([124] : List UInt8), st ([38, 45] : List UInt8), st ([62, 62] : List UInt8), st ([126] : List UInt8), st ([46] : List UInt8)].toArray te fre)] [] (fun o => (∃ (v : Bool), K v ∧ o = .ret (zB v) []) ∨ (False)) := by
 unfold aeu at h
 refine b9 (n := 34) (L0 := []) Tryd.func8 rfl rfl rfl rfl (fun w0 M Q hE => ?_)
 refine WC.newPool ?_
 refine a7 (fun _ hK => ?_)
 refine a6 ?_
 refine wA ?_
 refine WL.nil ?_
 refine KX.go (hK [] _ ?_) trivial
 refine a7 (fun _ hK_1' => ?_)
 refine a6 ?_
 obtain ⟨o, h⟩ := h
 refine WL.callS ado rfl (ad5 te fre ([97, 46, 40, 98, 124, 99, 41] : List UInt8) ([] : List (Nat × Obj)) l1 a1 o) rfl ⟨.inr (List.mem_of_getElem? (i := 0) rfl), trivial⟩ rfl rfl (fun r H' hS => ?_) (fun c H' hS => ?_)
 ·obtain ⟨qb1, dw1, mv1, ds1, R1, B, hc, ho⟩ := hS
  cases ho
  replace h := h qb1 dw1 mv1 ds1 R1 B hc
  refine wm ?_
  refine wv (OV.extract 0 rfl rfl) ?_
  refine wv (OV.extract 1 rfl rfl) ?_
  refine WL.make (MV.alloc z1) rfl rfl rfl (fun b => ?_)
  refine wA ?_
  refine WL.storeW (vs := [zI 0, zI 0, st []]) 0 rfl rfl rfl rfl rfl n6 rfl rfl rfl ?_
  refine WL.nil ?_
  refine kg (hK_1' [(1, zP qb1), (2, zP b)] _ ?_)
  refine a7 (fun _ hK_2' => ?_)
  refine a6 ?_
  refine wv (OV.loadR rfl (At.own 0 rfl) o8) ?_
  refine wv (OV.build rfl (cs := [zI 0, zI 0, st []]) rfl) ?_
  refine wv (OV.cast (OV.eqlF (rs := [decide ((0 : Int) = 0), decide ((0 : Int) = 0), decide (([] : List UInt8) = [])]) rfl rfl Tryd.underlying26 z2 aa8 ⟨rfl, aaq, ⟨_, _, rfl, rfl, p4.int Tryd.underlying24⟩, ⟨rfl, b6, ⟨_, _, rfl, rfl, p4.int Tryd.underlying3⟩, ⟨rfl, c6, ⟨_, _, rfl, rfl, p4.str Tryd.underlying9⟩, trivial⟩⟩⟩) (v' := zB true) rfl) ?_
  refine wm ?_
  refine wm ?_
  refine wv (OV.neqPN rfl rfl Tryd.underlying23) ?_
  refine wv (OV.pickT rfl rfl) ?_
  refine wm ?_
  refine wm ?_
  refine wv (OV.nilCheck rfl) ?_
  refine wv (OV.fieldAddr0 rfl aas) ?_
  obtain ⟨o_1', h⟩ := h
  refine wv (OV.load rfl (At.pool 1 rfl o_1') rfl o9) ?_
  obtain ⟨o_2', h⟩ := h
  refine wv (OV.neqNilX rfl o_2' Tryd.underlying37) ?_
  refine wv (OV.pickT rfl rfl) ?_
  refine wm ?_
  refine wm ?_
  refine wv (OV.nilCheck rfl) ?_
  refine wv (OV.fieldAddr0 rfl aas) ?_
  obtain ⟨o_3', h⟩ := h
  refine wv (OV.load rfl (At.pool 1 rfl o_3') rfl o9) ?_
  obtain ⟨o_4', h⟩ := h
  refine WL.cv (CV.meth rfl o_4' rfl) rfl rfl rfl ?_
  refine wv (OV.eql rfl rfl) ?_
  refine wv (OV.pickT rfl rfl) ?_
  refine wm ?_
  obtain ⟨o_6', h⟩ := h
  refine WL.cut 4 [(33, zB ((decide (plX a1 = 1)) && (decide (c8 l1 a1 = ([97, 32, 46, 32, 40, 98, 32, 124, 32, 99, 41, 10] : List UInt8)))))] ?_ (fun K0_3' hK_3' => ?_)
  rotate_left
  ·refine WL.split (decide (plX a1 = 1)) (fun hb => ?_) (fun hb => ?_)
   ·have o_5' := o_6' hb
    refine WL.set 29 rfl (congrArg zB hb) ?_
    refine wm ?_
    refine WL.cv ⟨_, _, _, EN.fn ad7 rfl, ac0 te fre B qb1 dw1 mv1 ds1 R1 l1 a1 o_5', aix.pool 1 rfl (fun _ h => h)⟩ rfl rfl rfl ?_
    refine wv (OV.eqlS rfl rfl) ?_
    refine wv (OV.pickT rfl rfl) ?_
    refine WL.set 33 rfl (bT (v := decide (c8 l1 a1 = ([97, 32, 46, 32, 40, 98, 32, 124, 32, 99, 41, 10] : List UInt8))) hb) ?_
    exact WL.end_ (kg hK_3')
   ·refine WL.set 29 rfl (congrArg zB hb) ?_
    refine wk ?_
    refine wk ?_
    refine wk ?_
    refine wv (OV.pickF rfl rfl) ?_
    refine WL.set 33 rfl (bF (v := decide (c8 l1 a1 = ([97, 32, 46, 32, 40, 98, 32, 124, 32, 99, 41, 10] : List UInt8))) hb) ?_
    exact WL.end_ (kg hK_3')
  refine wA ?_
  refine WL.nil ?_
  refine kg (hK_2' [(0, zB ((decide (plX a1 = 1)) && (decide (c8 l1 a1 = ([97, 32, 46, 32, 40, 98, 32, 124, 32, 99, 41, 10] : List UInt8)))))] _ ?_)
  refine c7 ?_
  exact hE.ret [] rfl rfl (.inl ⟨_, h, rfl⟩) (e9.of1 rfl (RV.tmp rfl))
 ·obtain ⟨qb1, dw1, mv1, ds1, R1, B, hc, ho⟩ := hS
  cases ho
theorem afd : n0 ([97, 46, 40, 98, 124, 99, 41] : List UInt8) = .ok ([], .binary 1 [46] (.name 0 [97]) (.binary 4 [124] (.name 3 [98]) (.name 5 [99]))) := by kernel_rfl
theorem akh : c8 [] (.binary 1 [46] (.name 0 [97]) (.binary 4 [124] (.name 3 [98]) (.name 5 [99]))) = ([97, 32, 46, 32, 40, 98, 32, 124, 32, 99, 41, 10] : List UInt8) := by kernel_rfl
theorem ae5 (te : TypeId) (fre : Nat × Nat) : d9 Tryd.prog 8 [] (ab2 te fre) [] (Ret (.bool true) []) := by
 refine (al7 te fre [] (.binary 1 [46] (.name 0 [97]) (.binary 4 [124] (.name 3 [98]) (.name 5 [99]))) (fun b => b = true) ?_).weak ?_
 ·unfold aeu
  refine ⟨afd, fun b w m ds B1 B hp => ⟨hp.1.2.2.2.2, aq3 hp.1.2.1, hp.1.2.2.2.2, anw hp.1.2.1, fun _ => ⟨hp.1, ac2 afd⟩, ?_⟩⟩
  rw [akh]
  decide
 ·rintro x (⟨b, rfl, rfl⟩ | h)
  ·rfl
  ·exact h.elim
end Go.Proofs.YtifajndacnfcbaaDoor
namespace Go.Proofs.YtifajndacnfcbaaDoor
open Go Go.RowKit
mutual
def shX (d : Int) : Ex → Ex
 | .name p s => .name (p + d) s
 | .text p s => .text (p + d) s
 | .regex p s => .regex (p + d) s
 | .keyed p a => .keyed (p + d) (shX d a)
 | .unary p o a => .unary (p + d) o (shX d a)
 | .binary p o a b => .binary (p + d) o (shX d a) (shX d b)
 | .call p w l => .call (p + d) w (acd d l)
def acd (d : Int) : ExL → ExL
 | .nil => .nil
 | .cons a r => .cons (shX d a) (acd d r)
end
theorem ak0 (d : Int) : ∀ l : ExL, (acd d l).len = l.len
 | .nil => by rw [acd]
 | .cons a r => by rw [acd]; show (acd d r).len + 1 = r.len + 1; rw [ak0 d r]
theorem ajm (d : Int) (b : Ex) : ∀ l : ExL, acd d (l.snoc b) = (acd d l).snoc (shX d b)
 | .nil => by simp only [ExL.snoc, acd]
 | .cons a r => by simp only [ExL.snoc, acd, ajm d b r]
theorem af3 (d : Int) (e : Ex) : rkX (shX d e) = rkX e := by cases e <;> simp only [shX, rkX]
mutual
theorem acp (d : Int) : ∀ e : Ex, l7 (shX d e) = l7 e
 | .name p s => by simp only [shX, l7]
 | .text p s => by simp only [shX, l7]
 | .regex p s => by simp only [shX, l7]
 | .keyed p a => by simp only [shX, l7, af3, acp d a]
 | .unary p o a => by simp only [shX, l7, af3, acp d a]
 | .binary p o a b => by simp only [shX, l7, af3, acp d a, acp d b]
 | .call p w l => by simp only [shX, l7, asr d l]
theorem asr (d : Int) : ∀ l : ExL, aby (acd d l) = aby l
 | .nil => by rw [acd]
 | .cons a r => by simp only [acd, aby, af3, acp d a, anp d r]
theorem anp (d : Int) : ∀ l : ExL, abc (acd d l) = abc l
 | .nil => by rw [acd]
 | .cons a r => by simp only [acd, abc, af3, acp d a, anp d r]
end
theorem aod (d : Int) (e : Ex) (n : Int) : f7 (shX d e) n = f7 e n := by unfold f7; rw [af3, acp]
def at8 (d : Int) (e : Int × Int) : Int × Int := if e.1 = -1 then e else (e.1, e.2 + d)
def rS {α : Type} (g : α → α) (d : Int) (n : Nat) : RsX α → RsX α
 | .error e => .error (at8 d e)
 | .ok (a, q) => .ok (g a, (q.1 + n, q.2))
section
variable {ts pre : List Tok} {d : Int}
structure Shf (ts pre : List Tok) (d : Int) (f : Nat) : Prop where
 e : ∀ l k o, k < ts.length → pE (pre ++ ts.map (shT d)) f l (k + pre.length, o) = rS (shX d) d pre.length (pE ts f l (k, o))
 l : ∀ l b k o, k < ts.length → pL (pre ++ ts.map (shT d)) f l (shX d b) (k + pre.length, o) = rS (shX d) d pre.length (pL ts f l b (k, o))
 p : ∀ k o, k < ts.length → pP (pre ++ ts.map (shT d)) f (k + pre.length, o) = rS (shX d) d pre.length (pP ts f (k, o))
 s : ∀ b k o, k < ts.length → pS (pre ++ ts.map (shT d)) f (shX d b) (k + pre.length, o) = rS (shX d) d pre.length (pS ts f b (k, o))
 a : ∀ k o, k < ts.length → pA (pre ++ ts.map (shT d)) f (k + pre.length, o) = rS (shX d) d pre.length (pA ts f (k, o))
 c : ∀ k o, k < ts.length → (a8 ts k).1 ≠ 0 → pC (pre ++ ts.map (shT d)) f (k + pre.length, o) = rS (shX d) d pre.length (pC ts f (k, o))
 r : ∀ n b k o, k < ts.length → pR (pre ++ ts.map (shT d)) f n (acd d b) (k + pre.length, o) = rS (acd d) d pre.length (pR ts f n b (k, o))
end
section
variable {ts pre : List Tok} {d : Int}
end
end Go.Proofs.YtifajndacnfcbaaDoor
namespace Go.Proofs.YtifajndacnfcbaaDoor
open Go Go.RowKit
section
variable {X : List Tok}
end
theorem aoq {t : List UInt8} (h : (e6 t).2.1 = 0) : ahs (e6 t).1 := (ait h).2.2.1
end Go.Proofs.YtifajndacnfcbaaDoor
