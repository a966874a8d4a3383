/-
  Merged: SyNf, SyKq, SyLawParses.
-/
import Derived.Test.YtifajndacnfcbaaDoorSq10
set_option maxRecDepth 100000
namespace Go.Proofs.YtifajndacnfcbaaDoor
open Go Go.RowKit
theorem l7 : f6 Tryd.prog 69 1 = some 1 := by kernel_rfl
theorem asl : RowT Tryd.prog 71 2 := ⟨by kernel_rfl, by kernel_rfl⟩
theorem atr : k9 Tryd.prog 23 = true := by kernel_rfl
theorem as8 : RowT Tryd.prog 73 2 := ⟨by kernel_rfl, by kernel_rfl⟩
theorem asm : k9 Tryd.prog 24 = true := by kernel_rfl
theorem atg : RowT Tryd.prog 74 2 := ⟨by kernel_rfl, by kernel_rfl⟩
theorem asz : k9 Tryd.prog 25 = true := by kernel_rfl
theorem as3 : RowT Tryd.prog 76 2 := ⟨by kernel_rfl, by kernel_rfl⟩
theorem asj : k9 Tryd.prog 26 = true := by kernel_rfl
theorem ab9 : k9 Tryd.prog 11 = true := by kernel_rfl
theorem as4 : RowT Tryd.prog 78 3 := ⟨by kernel_rfl, by kernel_rfl⟩
theorem at3 : k9 Tryd.prog 27 = true := by kernel_rfl
theorem as9 : RowT Tryd.prog 80 4 := ⟨by kernel_rfl, by kernel_rfl⟩
theorem as1 : k9 Tryd.prog 28 = true := by kernel_rfl
theorem ato : k9 Tryd.prog 29 = true := by kernel_rfl
def ae3 (p0 : Int) (s0 : List UInt8) (ns : List NdV) (_ : Value) (_ : Int) (i : Int) (_ : List Int) (K : Bool → Prop) : Prop :=
 (0 ≤ i ∧ i < (ns.length : Int)) ∧
 (((ns.getD (i).toNat default).2.2.2).oneCell' = true) ∧
 K ((((decide ((ns.getD (i).toNat default).1 = 1)) && (decide (p0 = (ns.getD (i).toNat default).2.1))) && (decide (s0 = (ns.getD (i).toNat default).2.2.1))) && (decide (p0 = (ns.getD (i).toNat default).2.1)))
theorem am2 (wn : Value) (B : List (Nat × Obj)) (p0 : Int) (s0 : List UInt8) (ns : List NdV) (dv : Value) (mn : Int) (i : Int) (js : List Int) (hRi1 : s9 wn B ns.length (ns.flatMap ndC)) (K : Bool → Prop) (h : ae3 p0 s0 ns dv mn i js K) :
  d9 Tryd.prog 11 [Value.iface 71 (Value.agg [zI p0, st s0].toArray), Value.agg [wn, dv, zI mn].toArray, zI i] (B ++ []) [] (fun o => (∃ (v : Bool), K v ∧ o = .ret (zB v) []) ∨ (False)) := by
 unfold ae3 at h
 refine c8 (n := 273) (L0 := [(0, Value.iface 71 (Value.agg [zI p0, st s0].toArray)), (1, Value.agg [wn, dv, zI mn].toArray), (2, zI i)]) Tryd.func11 rfl rfl rfl rfl (fun w0 M Q hE => ?_)
 have hi1 : LIn ⟨273, [], w0, M, (B ++ [])⟩ wn ns.length (ns.flatMap ndC) := s9.lin hRi1 (fun p hp => List.mem_append_left _ hp)
 refine a7 (fun _ hK => ?_)
 refine a6 ?_
 refine WL.make (MV.box (cs := [wn, dv, zI mn]) rfl rfl) rfl rfl rfl (fun b => ?_)
 refine wA ?_
 refine WL.nil ?_
 refine kg (hK [(0, Value.iface 71 (Value.agg [zI p0, st s0].toArray)), (2, zI i), (4, zP b)] _ ?_)
 refine a7 (fun _ hK_1' => ?_)
 refine a6 ?_
 refine wv (OV.fieldAddr0 rfl r8) ?_
 refine wv (OV.load rfl (At.own 0 rfl) rfl aap) ?_
 refine wm ?_
 obtain ⟨o, h⟩ := h
 refine wv (OV.indexIn hi1 rfl rfl abo o) ?_
 refine wv (OV.loadInE (f := ndC) hi1 rfl ac8 (by decide) (by omega) acd) ?_
 refine WL.make (MV.alloc abw) rfl rfl rfl (fun b_1' => ?_)
 refine WL.nilRow 3 1 z7 ?_
 obtain ⟨o_1', h⟩ := h
 refine WL.storeW (vs := [zI ((ns.getD (i).toNat default).1), zI ((ns.getD (i).toNat default).2.1), st ((ns.getD (i).toNat default).2.2.1), (ns.getD (i).toNat default).2.2.2]) 1 rfl rfl rfl rfl rfl abv rfl (d4 rfl (d4 rfl (d4 rfl (d4 o_1' o6)))) rfl ?_
 refine WL.nil ?_
 refine kg (hK_1' [(0, Value.iface 71 (Value.agg [zI p0, st s0].toArray)), (4, zP b), (7, zP b_1')] _ ?_)
 refine a7 (fun _ hK_2' => ?_)
 refine a7 (fun _ hK_3' => ?_)
 refine a6 ?_
 refine wm ?_
 refine WL.nil ?_
 refine kg (hK_3' [(4, zP b), (7, zP b_1'), (21, Value.iface 71 (Value.agg [zI p0, st s0].toArray))] _ ?_)
 refine b7 ?_
 refine a7 (fun _ hK_4' => ?_)
 refine a6 ?_
 refine wv (OV.assertYes (t' := 71) (v := Value.agg [zI p0, st s0].toArray) rfl u7) ?_
 refine wv (OV.extract 1 rfl rfl) ?_
 refine wv (OV.extract 0 rfl rfl) ?_
 refine WL.nil ?_
 refine kg (hK_4' [(4, zP b), (7, zP b_1'), (21, Value.iface 71 (Value.agg [zI p0, st s0].toArray)), (23, zB true), (24, Value.agg [zI p0, st s0].toArray)] _ ?_)
 refine f7 rfl ?_
 refine a7 (fun _ hK_5' => ?_)
 refine a6 ?_
 refine WL.make (MV.alloc alc) rfl rfl rfl (fun b_2' => ?_)
 refine WL.storeW (vs := [zI p0, st s0]) 0 rfl rfl rfl rfl rfl akb rfl rfl rfl ?_
 refine WL.nil ?_
 refine kg (hK_5' [(7, zP b_1'), (8, zP b_2')] _ ?_)
 refine a7 (fun _ hK_6' => ?_)
 refine l8 [] f0 (by kernel_rfl) rfl (fun T hT => ?_)
 refine fv (fun _ => OV.fieldAddr0 rfl y7) ?_
 refine fv (fun _ => OV.load rfl (At.own 2 rfl) rfl a8) ?_
 refine fv (fun _ => OV.eql rfl rfl) ?_
 refine fv (fun _ => OV.move rfl) ?_
 refine FL.cut 6 rfl (fun _ => [(7, zP b_1'), (8, zP b_2'), (34, zB ((decide ((ns.getD (i).toNat default).1 = 1)) && (decide (p0 = (ns.getD (i).toNat default).2.1))))]) ?_ (fun K0_7' hK_7' => ?_)
 rotate_left
 ·refine FL.split (decide ((ns.getD (i).toNat default).1 = 1)) (fun hb => ?_) (fun hb => ?_)
  ·refine FL.set 28 (fun _ => rfl) (congrArg zB hb) ?_
   refine fv (fun _ => OV.fieldAddr0 rfl ag2) ?_
   refine fv (fun _ => OV.load rfl (At.own 0 rfl) rfl a8) ?_
   refine fv (fun _ => OV.fieldAddr0 rfl l7) ?_
   refine fv (fun _ => OV.load rfl (At.own 2 rfl) rfl a8) ?_
   refine fv (fun _ => OV.eql rfl rfl) ?_
   refine fv (fun _ => OV.pickT rfl rfl) ?_
   refine FL.set 34 (fun _ => rfl) (bT (v := decide (p0 = (ns.getD (i).toNat default).2.1)) hb) ?_
   exact FL.weak (L' := fun _ => [(7, zP b_1'), (8, zP b_2'), (34, zB ((decide ((ns.getD (i).toNat default).1 = 1)) && (decide (p0 = (ns.getD (i).toNat default).2.1))))]) (fun _ => ⟨rfl, rfl, rfl, trivial⟩) (FL.nil hK_7')
  ·refine FL.set 28 (fun _ => rfl) (congrArg zB hb) ?_
   refine FL.skip rfl (fun _ => rfl) rfl rfl ?_
   refine FL.skip rfl (fun _ => rfl) rfl rfl ?_
   refine FL.skip rfl (fun _ => rfl) rfl rfl ?_
   refine FL.skip rfl (fun _ => rfl) rfl rfl ?_
   refine FL.skip rfl (fun _ => rfl) rfl rfl ?_
   refine fv (fun _ => OV.pickF rfl rfl) ?_
   refine FL.set 34 (fun _ => rfl) (bF (v := decide (p0 = (ns.getD (i).toNat default).2.1)) hb) ?_
   exact FL.weak (L' := fun _ => [(7, zP b_1'), (8, zP b_2'), (34, zB ((decide ((ns.getD (i).toNat default).1 = 1)) && (decide (p0 = (ns.getD (i).toNat default).2.1))))]) (fun _ => ⟨rfl, rfl, rfl, trivial⟩) (FL.nil hK_7')
 refine fv (fun _ => OV.move rfl) ?_
 refine FL.cut 6 rfl (fun _ => [(7, zP b_1'), (8, zP b_2'), (41, zB (((decide ((ns.getD (i).toNat default).1 = 1)) && (decide (p0 = (ns.getD (i).toNat default).2.1))) && (decide (s0 = (ns.getD (i).toNat default).2.2.1))))]) ?_ (fun K0_8' hK_8' => ?_)
 rotate_left
 ·refine FL.split ((decide ((ns.getD (i).toNat default).1 = 1)) && (decide (p0 = (ns.getD (i).toNat default).2.1))) (fun hb => ?_) (fun hb => ?_)
  ·refine FL.set 35 (fun _ => rfl) (congrArg zB hb) ?_
   refine fv (fun _ => OV.fieldAddr0 rfl agp) ?_
   refine fv (fun _ => OV.load rfl (At.own 0 rfl) rfl c7) ?_
   refine fv (fun _ => OV.fieldAddr0 rfl aay) ?_
   refine fv (fun _ => OV.load rfl (At.own 2 rfl) rfl c7) ?_
   refine fv (fun _ => OV.eqlS rfl rfl) ?_
   refine fv (fun _ => OV.pickT rfl rfl) ?_
   refine FL.set 41 (fun _ => rfl) (bT (v := decide (s0 = (ns.getD (i).toNat default).2.2.1)) hb) ?_
   exact FL.weak (L' := fun _ => [(7, zP b_1'), (8, zP b_2'), (41, zB (((decide ((ns.getD (i).toNat default).1 = 1)) && (decide (p0 = (ns.getD (i).toNat default).2.1))) && (decide (s0 = (ns.getD (i).toNat default).2.2.1))))]) (fun _ => ⟨rfl, rfl, rfl, trivial⟩) (FL.nil hK_8')
  ·refine FL.set 35 (fun _ => rfl) (congrArg zB hb) ?_
   refine FL.skip rfl (fun _ => rfl) rfl rfl ?_
   refine FL.skip rfl (fun _ => rfl) rfl rfl ?_
   refine FL.skip rfl (fun _ => rfl) rfl rfl ?_
   refine FL.skip rfl (fun _ => rfl) rfl rfl ?_
   refine FL.skip rfl (fun _ => rfl) rfl rfl ?_
   refine fv (fun _ => OV.pickF rfl rfl) ?_
   refine FL.set 41 (fun _ => rfl) (bF (v := decide (s0 = (ns.getD (i).toNat default).2.2.1)) hb) ?_
   exact FL.weak (L' := fun _ => [(7, zP b_1'), (8, zP b_2'), (41, zB (((decide ((ns.getD (i).toNat default).1 = 1)) && (decide (p0 = (ns.getD (i).toNat default).2.1))) && (decide (s0 = (ns.getD (i).toNat default).2.2.1))))]) (fun _ => ⟨rfl, rfl, rfl, trivial⟩) (FL.nil hK_8')
 refine fv (fun _ => OV.move rfl) ?_
 refine FL.cut 6 rfl (fun _ => [(48, zB ((((decide ((ns.getD (i).toNat default).1 = 1)) && (decide (p0 = (ns.getD (i).toNat default).2.1))) && (decide (s0 = (ns.getD (i).toNat default).2.2.1))) && (decide (p0 = (ns.getD (i).toNat default).2.1))))]) ?_ (fun K0_9' hK_9' => ?_)
 rotate_left
 ·refine FL.split (((decide ((ns.getD (i).toNat default).1 = 1)) && (decide (p0 = (ns.getD (i).toNat default).2.1))) && (decide (s0 = (ns.getD (i).toNat default).2.2.1))) (fun hb => ?_) (fun hb => ?_)
  ·refine FL.set 42 (fun _ => rfl) (congrArg zB hb) ?_
   refine fv (fun _ => OV.loadR rfl (At.own 0 rfl) asl) ?_
   refine FL.call atr (fun _ => rfl) ((ah1 p0 s0 (fun d => d = p0) (by unfold ac6; rfl)).weak (fun x h => u6 h)) trivial rfl (fun _ => rfl) rfl ?_
   refine fv (fun _ => OV.fieldAddr0 rfl l7) ?_
   refine fv (fun _ => OV.load rfl (At.own 2 rfl) rfl a8) ?_
   refine fv (fun _ => OV.eql rfl rfl) ?_
   refine fv (fun _ => OV.pickT rfl rfl) ?_
   refine FL.set 48 (fun _ => rfl) (bT (v := decide (p0 = (ns.getD (i).toNat default).2.1)) hb) ?_
   exact FL.weak (L' := fun _ => [(48, zB ((((decide ((ns.getD (i).toNat default).1 = 1)) && (decide (p0 = (ns.getD (i).toNat default).2.1))) && (decide (s0 = (ns.getD (i).toNat default).2.2.1))) && (decide (p0 = (ns.getD (i).toNat default).2.1))))]) (fun _ => ⟨rfl, trivial⟩) (FL.nil hK_9')
  ·refine FL.set 42 (fun _ => rfl) (congrArg zB hb) ?_
   refine FL.skip rfl (fun _ => rfl) rfl rfl ?_
   refine FL.skip rfl (fun _ => rfl) rfl rfl ?_
   refine FL.skip rfl (fun _ => rfl) rfl rfl ?_
   refine FL.skip rfl (fun _ => rfl) rfl rfl ?_
   refine FL.skip rfl (fun _ => rfl) rfl rfl ?_
   refine fv (fun _ => OV.pickF rfl rfl) ?_
   refine FL.set 48 (fun _ => rfl) (bF (v := decide (p0 = (ns.getD (i).toNat default).2.1)) hb) ?_
   exact FL.weak (L' := fun _ => [(48, zB ((((decide ((ns.getD (i).toNat default).1 = 1)) && (decide (p0 = (ns.getD (i).toNat default).2.1))) && (decide (s0 = (ns.getD (i).toNat default).2.2.1))) && (decide (p0 = (ns.getD (i).toNat default).2.1))))]) (fun _ => ⟨rfl, trivial⟩) (FL.nil hK_9')
 refine fv (fun _ => OV.assign rfl) ?_
 refine FL.weak (L' := fun _ => [(6, zB ((((decide ((ns.getD (i).toNat default).1 = 1)) && (decide (p0 = (ns.getD (i).toNat default).2.1))) && (decide (s0 = (ns.getD (i).toNat default).2.2.1))) && (decide (p0 = (ns.getD (i).toNat default).2.1))))]) (fun _ => ⟨rfl, trivial⟩) (FL.nil (hT (fun _ => [(6, zB ((((decide ((ns.getD (i).toNat default).1 = 1)) && (decide (p0 = (ns.getD (i).toNat default).2.1))) && (decide (s0 = (ns.getD (i).toNat default).2.2.1))) && (decide (p0 = (ns.getD (i).toNat default).2.1))))]) (fun _ => ?_)))
 refine kg (hK_6' [(6, zB ((((decide ((ns.getD (i).toNat default).1 = 1)) && (decide (p0 = (ns.getD (i).toNat default).2.1))) && (decide (s0 = (ns.getD (i).toNat default).2.2.1))) && (decide (p0 = (ns.getD (i).toNat default).2.1))))] _ ?_)
 refine b8 ?_
 exact hE.ret [] rfl rfl (.inl ⟨_, h, rfl⟩) (d7.of1 rfl (RV.tmp rfl))
def afd (p0 : Int) (s0 : List UInt8) (ns : List NdV) (_ : Value) (_ : Int) (i : Int) (_ : List Int) (K : Bool → Prop) : Prop :=
 (0 ≤ i ∧ i < (ns.length : Int)) ∧
 (((ns.getD (i).toNat default).2.2.2).oneCell' = true) ∧
 K ((((decide ((ns.getD (i).toNat default).1 = 2)) && (decide (p0 = (ns.getD (i).toNat default).2.1))) && (decide (s0 = (ns.getD (i).toNat default).2.2.1))) && (decide (p0 = (ns.getD (i).toNat default).2.1)))
theorem an3 (wn : Value) (B : List (Nat × Obj)) (p0 : Int) (s0 : List UInt8) (ns : List NdV) (dv : Value) (mn : Int) (i : Int) (js : List Int) (hRi1 : s9 wn B ns.length (ns.flatMap ndC)) (K : Bool → Prop) (h : afd p0 s0 ns dv mn i js K) :
  d9 Tryd.prog 11 [Value.iface 73 (Value.agg [zI p0, st s0].toArray), Value.agg [wn, dv, zI mn].toArray, zI i] (B ++ []) [] (fun o => (∃ (v : Bool), K v ∧ o = .ret (zB v) []) ∨ (False)) := by
 unfold afd at h
 refine c8 (n := 273) (L0 := [(0, Value.iface 73 (Value.agg [zI p0, st s0].toArray)), (1, Value.agg [wn, dv, zI mn].toArray), (2, zI i)]) Tryd.func11 rfl rfl rfl rfl (fun w0 M Q hE => ?_)
 have hi1 : LIn ⟨273, [], w0, M, (B ++ [])⟩ wn ns.length (ns.flatMap ndC) := s9.lin hRi1 (fun p hp => List.mem_append_left _ hp)
 refine a7 (fun _ hK => ?_)
 refine a6 ?_
 refine WL.make (MV.box (cs := [wn, dv, zI mn]) rfl rfl) rfl rfl rfl (fun b => ?_)
 refine wA ?_
 refine WL.nil ?_
 refine kg (hK [(0, Value.iface 73 (Value.agg [zI p0, st s0].toArray)), (2, zI i), (4, zP b)] _ ?_)
 refine a7 (fun _ hK_1' => ?_)
 refine a6 ?_
 refine wv (OV.fieldAddr0 rfl r8) ?_
 refine wv (OV.load rfl (At.own 0 rfl) rfl aap) ?_
 refine wm ?_
 obtain ⟨o, h⟩ := h
 refine wv (OV.indexIn hi1 rfl rfl abo o) ?_
 refine wv (OV.loadInE (f := ndC) hi1 rfl ac8 (by decide) (by omega) acd) ?_
 refine WL.make (MV.alloc abw) rfl rfl rfl (fun b_1' => ?_)
 refine WL.nilRow 3 1 z7 ?_
 obtain ⟨o_1', h⟩ := h
 refine WL.storeW (vs := [zI ((ns.getD (i).toNat default).1), zI ((ns.getD (i).toNat default).2.1), st ((ns.getD (i).toNat default).2.2.1), (ns.getD (i).toNat default).2.2.2]) 1 rfl rfl rfl rfl rfl abv rfl (d4 rfl (d4 rfl (d4 rfl (d4 o_1' o6)))) rfl ?_
 refine WL.nil ?_
 refine kg (hK_1' [(0, Value.iface 73 (Value.agg [zI p0, st s0].toArray)), (4, zP b), (7, zP b_1')] _ ?_)
 refine a7 (fun _ hK_2' => ?_)
 refine a7 (fun _ hK_3' => ?_)
 refine a6 ?_
 refine wm ?_
 refine WL.nil ?_
 refine kg (hK_3' [(4, zP b), (7, zP b_1'), (21, Value.iface 73 (Value.agg [zI p0, st s0].toArray))] _ ?_)
 refine b7 ?_
 refine a7 (fun _ hK_4' => ?_)
 refine a6 ?_
 refine wv (OV.assertNo (t2 := 73) (v := Value.agg [zI p0, st s0].toArray) rfl u7 x6 rfl) ?_
 refine wv (OV.extract 1 rfl rfl) ?_
 refine wv (OV.extract 0 rfl rfl) ?_
 refine WL.nil ?_
 refine kg (hK_4' [(4, zP b), (7, zP b_1'), (21, Value.iface 73 (Value.agg [zI p0, st s0].toArray)), (23, zB false), (24, Value.agg [zI 0, st []].toArray)] _ ?_)
 refine d5 rfl ?_
 refine a7 (fun _ hK_5' => ?_)
 refine a6 ?_
 refine wv (OV.assertYes (t' := 73) (v := Value.agg [zI p0, st s0].toArray) rfl x9) ?_
 refine wv (OV.extract 1 rfl rfl) ?_
 refine wv (OV.extract 0 rfl rfl) ?_
 refine WL.nil ?_
 refine kg (hK_5' [(4, zP b), (7, zP b_1'), (21, Value.iface 73 (Value.agg [zI p0, st s0].toArray)), (50, zB true), (51, Value.agg [zI p0, st s0].toArray)] _ ?_)
 refine f7 rfl ?_
 refine a7 (fun _ hK_6' => ?_)
 refine a6 ?_
 refine WL.make (MV.alloc ald) rfl rfl rfl (fun b_2' => ?_)
 refine WL.storeW (vs := [zI p0, st s0]) 0 rfl rfl rfl rfl rfl akt rfl rfl rfl ?_
 refine WL.nil ?_
 refine kg (hK_6' [(7, zP b_1'), (9, zP b_2')] _ ?_)
 refine a7 (fun _ hK_7' => ?_)
 refine l8 [] f0 (by kernel_rfl) rfl (fun T hT => ?_)
 refine fv (fun _ => OV.fieldAddr0 rfl y7) ?_
 refine fv (fun _ => OV.load rfl (At.own 2 rfl) rfl a8) ?_
 refine fv (fun _ => OV.eql rfl rfl) ?_
 refine fv (fun _ => OV.move rfl) ?_
 refine FL.cut 6 rfl (fun _ => [(7, zP b_1'), (9, zP b_2'), (61, zB ((decide ((ns.getD (i).toNat default).1 = 2)) && (decide (p0 = (ns.getD (i).toNat default).2.1))))]) ?_ (fun K0_8' hK_8' => ?_)
 rotate_left
 ·refine FL.split (decide ((ns.getD (i).toNat default).1 = 2)) (fun hb => ?_) (fun hb => ?_)
  ·refine FL.set 55 (fun _ => rfl) (congrArg zB hb) ?_
   refine fv (fun _ => OV.fieldAddr0 rfl ag4) ?_
   refine fv (fun _ => OV.load rfl (At.own 0 rfl) rfl a8) ?_
   refine fv (fun _ => OV.fieldAddr0 rfl l7) ?_
   refine fv (fun _ => OV.load rfl (At.own 2 rfl) rfl a8) ?_
   refine fv (fun _ => OV.eql rfl rfl) ?_
   refine fv (fun _ => OV.pickT rfl rfl) ?_
   refine FL.set 61 (fun _ => rfl) (bT (v := decide (p0 = (ns.getD (i).toNat default).2.1)) hb) ?_
   exact FL.weak (L' := fun _ => [(7, zP b_1'), (9, zP b_2'), (61, zB ((decide ((ns.getD (i).toNat default).1 = 2)) && (decide (p0 = (ns.getD (i).toNat default).2.1))))]) (fun _ => ⟨rfl, rfl, rfl, trivial⟩) (FL.nil hK_8')
  ·refine FL.set 55 (fun _ => rfl) (congrArg zB hb) ?_
   refine FL.skip rfl (fun _ => rfl) rfl rfl ?_
   refine FL.skip rfl (fun _ => rfl) rfl rfl ?_
   refine FL.skip rfl (fun _ => rfl) rfl rfl ?_
   refine FL.skip rfl (fun _ => rfl) rfl rfl ?_
   refine FL.skip rfl (fun _ => rfl) rfl rfl ?_
   refine fv (fun _ => OV.pickF rfl rfl) ?_
   refine FL.set 61 (fun _ => rfl) (bF (v := decide (p0 = (ns.getD (i).toNat default).2.1)) hb) ?_
   exact FL.weak (L' := fun _ => [(7, zP b_1'), (9, zP b_2'), (61, zB ((decide ((ns.getD (i).toNat default).1 = 2)) && (decide (p0 = (ns.getD (i).toNat default).2.1))))]) (fun _ => ⟨rfl, rfl, rfl, trivial⟩) (FL.nil hK_8')
 refine fv (fun _ => OV.move rfl) ?_
 refine FL.cut 6 rfl (fun _ => [(7, zP b_1'), (9, zP b_2'), (68, zB (((decide ((ns.getD (i).toNat default).1 = 2)) && (decide (p0 = (ns.getD (i).toNat default).2.1))) && (decide (s0 = (ns.getD (i).toNat default).2.2.1))))]) ?_ (fun K0_9' hK_9' => ?_)
 rotate_left
 ·refine FL.split ((decide ((ns.getD (i).toNat default).1 = 2)) && (decide (p0 = (ns.getD (i).toNat default).2.1))) (fun hb => ?_) (fun hb => ?_)
  ·refine FL.set 62 (fun _ => rfl) (congrArg zB hb) ?_
   refine fv (fun _ => OV.fieldAddr0 rfl agt) ?_
   refine fv (fun _ => OV.load rfl (At.own 0 rfl) rfl c7) ?_
   refine fv (fun _ => OV.fieldAddr0 rfl aay) ?_
   refine fv (fun _ => OV.load rfl (At.own 2 rfl) rfl c7) ?_
   refine fv (fun _ => OV.eqlS rfl rfl) ?_
   refine fv (fun _ => OV.pickT rfl rfl) ?_
   refine FL.set 68 (fun _ => rfl) (bT (v := decide (s0 = (ns.getD (i).toNat default).2.2.1)) hb) ?_
   exact FL.weak (L' := fun _ => [(7, zP b_1'), (9, zP b_2'), (68, zB (((decide ((ns.getD (i).toNat default).1 = 2)) && (decide (p0 = (ns.getD (i).toNat default).2.1))) && (decide (s0 = (ns.getD (i).toNat default).2.2.1))))]) (fun _ => ⟨rfl, rfl, rfl, trivial⟩) (FL.nil hK_9')
  ·refine FL.set 62 (fun _ => rfl) (congrArg zB hb) ?_
   refine FL.skip rfl (fun _ => rfl) rfl rfl ?_
   refine FL.skip rfl (fun _ => rfl) rfl rfl ?_
   refine FL.skip rfl (fun _ => rfl) rfl rfl ?_
   refine FL.skip rfl (fun _ => rfl) rfl rfl ?_
   refine FL.skip rfl (fun _ => rfl) rfl rfl ?_
   refine fv (fun _ => OV.pickF rfl rfl) ?_
   refine FL.set 68 (fun _ => rfl) (bF (v := decide (s0 = (ns.getD (i).toNat default).2.2.1)) hb) ?_
   exact FL.weak (L' := fun _ => [(7, zP b_1'), (9, zP b_2'), (68, zB (((decide ((ns.getD (i).toNat default).1 = 2)) && (decide (p0 = (ns.getD (i).toNat default).2.1))) && (decide (s0 = (ns.getD (i).toNat default).2.2.1))))]) (fun _ => ⟨rfl, rfl, rfl, trivial⟩) (FL.nil hK_9')
 refine fv (fun _ => OV.move rfl) ?_
 refine FL.cut 6 rfl (fun _ => [(75, zB ((((decide ((ns.getD (i).toNat default).1 = 2)) && (decide (p0 = (ns.getD (i).toNat default).2.1))) && (decide (s0 = (ns.getD (i).toNat default).2.2.1))) && (decide (p0 = (ns.getD (i).toNat default).2.1))))]) ?_ (fun K0_10' hK_10' => ?_)
 rotate_left
 ·refine FL.split (((decide ((ns.getD (i).toNat default).1 = 2)) && (decide (p0 = (ns.getD (i).toNat default).2.1))) && (decide (s0 = (ns.getD (i).toNat default).2.2.1))) (fun hb => ?_) (fun hb => ?_)
  ·refine FL.set 69 (fun _ => rfl) (congrArg zB hb) ?_
   refine fv (fun _ => OV.loadR rfl (At.own 0 rfl) as8) ?_
   refine FL.call asm (fun _ => rfl) ((aif p0 s0 (fun d => d = p0) (by unfold ac5; rfl)).weak (fun x h => u6 h)) trivial rfl (fun _ => rfl) rfl ?_
   refine fv (fun _ => OV.fieldAddr0 rfl l7) ?_
   refine fv (fun _ => OV.load rfl (At.own 2 rfl) rfl a8) ?_
   refine fv (fun _ => OV.eql rfl rfl) ?_
   refine fv (fun _ => OV.pickT rfl rfl) ?_
   refine FL.set 75 (fun _ => rfl) (bT (v := decide (p0 = (ns.getD (i).toNat default).2.1)) hb) ?_
   exact FL.weak (L' := fun _ => [(75, zB ((((decide ((ns.getD (i).toNat default).1 = 2)) && (decide (p0 = (ns.getD (i).toNat default).2.1))) && (decide (s0 = (ns.getD (i).toNat default).2.2.1))) && (decide (p0 = (ns.getD (i).toNat default).2.1))))]) (fun _ => ⟨rfl, trivial⟩) (FL.nil hK_10')
  ·refine FL.set 69 (fun _ => rfl) (congrArg zB hb) ?_
   refine FL.skip rfl (fun _ => rfl) rfl rfl ?_
   refine FL.skip rfl (fun _ => rfl) rfl rfl ?_
   refine FL.skip rfl (fun _ => rfl) rfl rfl ?_
   refine FL.skip rfl (fun _ => rfl) rfl rfl ?_
   refine FL.skip rfl (fun _ => rfl) rfl rfl ?_
   refine fv (fun _ => OV.pickF rfl rfl) ?_
   refine FL.set 75 (fun _ => rfl) (bF (v := decide (p0 = (ns.getD (i).toNat default).2.1)) hb) ?_
   exact FL.weak (L' := fun _ => [(75, zB ((((decide ((ns.getD (i).toNat default).1 = 2)) && (decide (p0 = (ns.getD (i).toNat default).2.1))) && (decide (s0 = (ns.getD (i).toNat default).2.2.1))) && (decide (p0 = (ns.getD (i).toNat default).2.1))))]) (fun _ => ⟨rfl, trivial⟩) (FL.nil hK_10')
 refine fv (fun _ => OV.assign rfl) ?_
 refine FL.weak (L' := fun _ => [(6, zB ((((decide ((ns.getD (i).toNat default).1 = 2)) && (decide (p0 = (ns.getD (i).toNat default).2.1))) && (decide (s0 = (ns.getD (i).toNat default).2.2.1))) && (decide (p0 = (ns.getD (i).toNat default).2.1))))]) (fun _ => ⟨rfl, trivial⟩) (FL.nil (hT (fun _ => [(6, zB ((((decide ((ns.getD (i).toNat default).1 = 2)) && (decide (p0 = (ns.getD (i).toNat default).2.1))) && (decide (s0 = (ns.getD (i).toNat default).2.2.1))) && (decide (p0 = (ns.getD (i).toNat default).2.1))))]) (fun _ => ?_)))
 refine kg (hK_7' [(6, zB ((((decide ((ns.getD (i).toNat default).1 = 2)) && (decide (p0 = (ns.getD (i).toNat default).2.1))) && (decide (s0 = (ns.getD (i).toNat default).2.2.1))) && (decide (p0 = (ns.getD (i).toNat default).2.1))))] _ ?_)
 refine b8 ?_
 exact hE.ret [] rfl rfl (.inl ⟨_, h, rfl⟩) (d7.of1 rfl (RV.tmp rfl))
def aej (p0 : Int) (s0 : List UInt8) (ns : List NdV) (_ : Value) (_ : Int) (i : Int) (_ : List Int) (K : Bool → Prop) : Prop :=
 (0 ≤ i ∧ i < (ns.length : Int)) ∧
 (((ns.getD (i).toNat default).2.2.2).oneCell' = true) ∧
 K ((((decide ((ns.getD (i).toNat default).1 = 3)) && (decide (p0 = (ns.getD (i).toNat default).2.1))) && (decide (s0 = (ns.getD (i).toNat default).2.2.1))) && (decide (p0 = (ns.getD (i).toNat default).2.1)))
theorem alr (wn : Value) (B : List (Nat × Obj)) (p0 : Int) (s0 : List UInt8) (ns : List NdV) (dv : Value) (mn : Int) (i : Int) (js : List Int) (hRi1 : s9 wn B ns.length (ns.flatMap ndC)) (K : Bool → Prop) (h : aej p0 s0 ns dv mn i js K) :
  d9 Tryd.prog 11 [Value.iface 74 (Value.agg [zI p0, st s0].toArray), Value.agg [wn, dv, zI mn].toArray, zI i] (B ++ []) [] (fun o => (∃ (v : Bool), K v ∧ o = .ret (zB v) []) ∨ (False)) := by
 unfold aej at h
 refine c8 (n := 273) (L0 := [(0, Value.iface 74 (Value.agg [zI p0, st s0].toArray)), (1, Value.agg [wn, dv, zI mn].toArray), (2, zI i)]) Tryd.func11 rfl rfl rfl rfl (fun w0 M Q hE => ?_)
 have hi1 : LIn ⟨273, [], w0, M, (B ++ [])⟩ wn ns.length (ns.flatMap ndC) := s9.lin hRi1 (fun p hp => List.mem_append_left _ hp)
 refine a7 (fun _ hK => ?_)
 refine a6 ?_
 refine WL.make (MV.box (cs := [wn, dv, zI mn]) rfl rfl) rfl rfl rfl (fun b => ?_)
 refine wA ?_
 refine WL.nil ?_
 refine kg (hK [(0, Value.iface 74 (Value.agg [zI p0, st s0].toArray)), (2, zI i), (4, zP b)] _ ?_)
 refine a7 (fun _ hK_1' => ?_)
 refine a6 ?_
 refine wv (OV.fieldAddr0 rfl r8) ?_
 refine wv (OV.load rfl (At.own 0 rfl) rfl aap) ?_
 refine wm ?_
 obtain ⟨o, h⟩ := h
 refine wv (OV.indexIn hi1 rfl rfl abo o) ?_
 refine wv (OV.loadInE (f := ndC) hi1 rfl ac8 (by decide) (by omega) acd) ?_
 refine WL.make (MV.alloc abw) rfl rfl rfl (fun b_1' => ?_)
 refine WL.nilRow 3 1 z7 ?_
 obtain ⟨o_1', h⟩ := h
 refine WL.storeW (vs := [zI ((ns.getD (i).toNat default).1), zI ((ns.getD (i).toNat default).2.1), st ((ns.getD (i).toNat default).2.2.1), (ns.getD (i).toNat default).2.2.2]) 1 rfl rfl rfl rfl rfl abv rfl (d4 rfl (d4 rfl (d4 rfl (d4 o_1' o6)))) rfl ?_
 refine WL.nil ?_
 refine kg (hK_1' [(0, Value.iface 74 (Value.agg [zI p0, st s0].toArray)), (4, zP b), (7, zP b_1')] _ ?_)
 refine a7 (fun _ hK_2' => ?_)
 refine a7 (fun _ hK_3' => ?_)
 refine a6 ?_
 refine wm ?_
 refine WL.nil ?_
 refine kg (hK_3' [(4, zP b), (7, zP b_1'), (21, Value.iface 74 (Value.agg [zI p0, st s0].toArray))] _ ?_)
 refine b7 ?_
 refine a7 (fun _ hK_4' => ?_)
 refine a6 ?_
 refine wv (OV.assertNo (t2 := 74) (v := Value.agg [zI p0, st s0].toArray) rfl u7 x6 rfl) ?_
 refine wv (OV.extract 1 rfl rfl) ?_
 refine wv (OV.extract 0 rfl rfl) ?_
 refine WL.nil ?_
 refine kg (hK_4' [(4, zP b), (7, zP b_1'), (21, Value.iface 74 (Value.agg [zI p0, st s0].toArray)), (23, zB false), (24, Value.agg [zI 0, st []].toArray)] _ ?_)
 refine d5 rfl ?_
 refine a7 (fun _ hK_5' => ?_)
 refine a6 ?_
 refine wv (OV.assertNo (t2 := 74) (v := Value.agg [zI p0, st s0].toArray) rfl x9 aau rfl) ?_
 refine wv (OV.extract 1 rfl rfl) ?_
 refine wv (OV.extract 0 rfl rfl) ?_
 refine WL.nil ?_
 refine kg (hK_5' [(4, zP b), (7, zP b_1'), (21, Value.iface 74 (Value.agg [zI p0, st s0].toArray)), (50, zB false), (51, Value.agg [zI 0, st []].toArray)] _ ?_)
 refine d5 rfl ?_
 refine a7 (fun _ hK_6' => ?_)
 refine a6 ?_
 refine wv (OV.assertYes (t' := 74) (v := Value.agg [zI p0, st s0].toArray) rfl aas) ?_
 refine wv (OV.extract 1 rfl rfl) ?_
 refine wv (OV.extract 0 rfl rfl) ?_
 refine WL.nil ?_
 refine kg (hK_6' [(4, zP b), (7, zP b_1'), (21, Value.iface 74 (Value.agg [zI p0, st s0].toArray)), (77, zB true), (78, Value.agg [zI p0, st s0].toArray)] _ ?_)
 refine f7 rfl ?_
 refine a7 (fun _ hK_7' => ?_)
 refine a6 ?_
 refine WL.make (MV.alloc akq) rfl rfl rfl (fun b_2' => ?_)
 refine WL.storeW (vs := [zI p0, st s0]) 0 rfl rfl rfl rfl rfl akm rfl rfl rfl ?_
 refine WL.nil ?_
 refine kg (hK_7' [(7, zP b_1'), (10, zP b_2')] _ ?_)
 refine a7 (fun _ hK_8' => ?_)
 refine l8 [] f0 (by kernel_rfl) rfl (fun T hT => ?_)
 refine fv (fun _ => OV.fieldAddr0 rfl y7) ?_
 refine fv (fun _ => OV.load rfl (At.own 2 rfl) rfl a8) ?_
 refine fv (fun _ => OV.eql rfl rfl) ?_
 refine fv (fun _ => OV.move rfl) ?_
 refine FL.cut 6 rfl (fun _ => [(7, zP b_1'), (10, zP b_2'), (88, zB ((decide ((ns.getD (i).toNat default).1 = 3)) && (decide (p0 = (ns.getD (i).toNat default).2.1))))]) ?_ (fun K0_9' hK_9' => ?_)
 rotate_left
 ·refine FL.split (decide ((ns.getD (i).toNat default).1 = 3)) (fun hb => ?_) (fun hb => ?_)
  ·refine FL.set 82 (fun _ => rfl) (congrArg zB hb) ?_
   refine fv (fun _ => OV.fieldAddr0 rfl agx) ?_
   refine fv (fun _ => OV.load rfl (At.own 0 rfl) rfl a8) ?_
   refine fv (fun _ => OV.fieldAddr0 rfl l7) ?_
   refine fv (fun _ => OV.load rfl (At.own 2 rfl) rfl a8) ?_
   refine fv (fun _ => OV.eql rfl rfl) ?_
   refine fv (fun _ => OV.pickT rfl rfl) ?_
   refine FL.set 88 (fun _ => rfl) (bT (v := decide (p0 = (ns.getD (i).toNat default).2.1)) hb) ?_
   exact FL.weak (L' := fun _ => [(7, zP b_1'), (10, zP b_2'), (88, zB ((decide ((ns.getD (i).toNat default).1 = 3)) && (decide (p0 = (ns.getD (i).toNat default).2.1))))]) (fun _ => ⟨rfl, rfl, rfl, trivial⟩) (FL.nil hK_9')
  ·refine FL.set 82 (fun _ => rfl) (congrArg zB hb) ?_
   refine FL.skip rfl (fun _ => rfl) rfl rfl ?_
   refine FL.skip rfl (fun _ => rfl) rfl rfl ?_
   refine FL.skip rfl (fun _ => rfl) rfl rfl ?_
   refine FL.skip rfl (fun _ => rfl) rfl rfl ?_
   refine FL.skip rfl (fun _ => rfl) rfl rfl ?_
   refine fv (fun _ => OV.pickF rfl rfl) ?_
   refine FL.set 88 (fun _ => rfl) (bF (v := decide (p0 = (ns.getD (i).toNat default).2.1)) hb) ?_
   exact FL.weak (L' := fun _ => [(7, zP b_1'), (10, zP b_2'), (88, zB ((decide ((ns.getD (i).toNat default).1 = 3)) && (decide (p0 = (ns.getD (i).toNat default).2.1))))]) (fun _ => ⟨rfl, rfl, rfl, trivial⟩) (FL.nil hK_9')
 refine fv (fun _ => OV.move rfl) ?_
 refine FL.cut 6 rfl (fun _ => [(7, zP b_1'), (10, zP b_2'), (95, zB (((decide ((ns.getD (i).toNat default).1 = 3)) && (decide (p0 = (ns.getD (i).toNat default).2.1))) && (decide (s0 = (ns.getD (i).toNat default).2.2.1))))]) ?_ (fun K0_10' hK_10' => ?_)
 rotate_left
 ·refine FL.split ((decide ((ns.getD (i).toNat default).1 = 3)) && (decide (p0 = (ns.getD (i).toNat default).2.1))) (fun hb => ?_) (fun hb => ?_)
  ·refine FL.set 89 (fun _ => rfl) (congrArg zB hb) ?_
   refine fv (fun _ => OV.fieldAddr0 rfl agv) ?_
   refine fv (fun _ => OV.load rfl (At.own 0 rfl) rfl c7) ?_
   refine fv (fun _ => OV.fieldAddr0 rfl aay) ?_
   refine fv (fun _ => OV.load rfl (At.own 2 rfl) rfl c7) ?_
   refine fv (fun _ => OV.eqlS rfl rfl) ?_
   refine fv (fun _ => OV.pickT rfl rfl) ?_
   refine FL.set 95 (fun _ => rfl) (bT (v := decide (s0 = (ns.getD (i).toNat default).2.2.1)) hb) ?_
   exact FL.weak (L' := fun _ => [(7, zP b_1'), (10, zP b_2'), (95, zB (((decide ((ns.getD (i).toNat default).1 = 3)) && (decide (p0 = (ns.getD (i).toNat default).2.1))) && (decide (s0 = (ns.getD (i).toNat default).2.2.1))))]) (fun _ => ⟨rfl, rfl, rfl, trivial⟩) (FL.nil hK_10')
  ·refine FL.set 89 (fun _ => rfl) (congrArg zB hb) ?_
   refine FL.skip rfl (fun _ => rfl) rfl rfl ?_
   refine FL.skip rfl (fun _ => rfl) rfl rfl ?_
   refine FL.skip rfl (fun _ => rfl) rfl rfl ?_
   refine FL.skip rfl (fun _ => rfl) rfl rfl ?_
   refine FL.skip rfl (fun _ => rfl) rfl rfl ?_
   refine fv (fun _ => OV.pickF rfl rfl) ?_
   refine FL.set 95 (fun _ => rfl) (bF (v := decide (s0 = (ns.getD (i).toNat default).2.2.1)) hb) ?_
   exact FL.weak (L' := fun _ => [(7, zP b_1'), (10, zP b_2'), (95, zB (((decide ((ns.getD (i).toNat default).1 = 3)) && (decide (p0 = (ns.getD (i).toNat default).2.1))) && (decide (s0 = (ns.getD (i).toNat default).2.2.1))))]) (fun _ => ⟨rfl, rfl, rfl, trivial⟩) (FL.nil hK_10')
 refine fv (fun _ => OV.move rfl) ?_
 refine FL.cut 6 rfl (fun _ => [(102, zB ((((decide ((ns.getD (i).toNat default).1 = 3)) && (decide (p0 = (ns.getD (i).toNat default).2.1))) && (decide (s0 = (ns.getD (i).toNat default).2.2.1))) && (decide (p0 = (ns.getD (i).toNat default).2.1))))]) ?_ (fun K0_11' hK_11' => ?_)
 rotate_left
 ·refine FL.split (((decide ((ns.getD (i).toNat default).1 = 3)) && (decide (p0 = (ns.getD (i).toNat default).2.1))) && (decide (s0 = (ns.getD (i).toNat default).2.2.1))) (fun hb => ?_) (fun hb => ?_)
  ·refine FL.set 96 (fun _ => rfl) (congrArg zB hb) ?_
   refine fv (fun _ => OV.loadR rfl (At.own 0 rfl) atg) ?_
   refine FL.call asz (fun _ => rfl) ((ag3 p0 s0 (fun d => d = p0) (by unfold acr; rfl)).weak (fun x h => u6 h)) trivial rfl (fun _ => rfl) rfl ?_
   refine fv (fun _ => OV.fieldAddr0 rfl l7) ?_
   refine fv (fun _ => OV.load rfl (At.own 2 rfl) rfl a8) ?_
   refine fv (fun _ => OV.eql rfl rfl) ?_
   refine fv (fun _ => OV.pickT rfl rfl) ?_
   refine FL.set 102 (fun _ => rfl) (bT (v := decide (p0 = (ns.getD (i).toNat default).2.1)) hb) ?_
   exact FL.weak (L' := fun _ => [(102, zB ((((decide ((ns.getD (i).toNat default).1 = 3)) && (decide (p0 = (ns.getD (i).toNat default).2.1))) && (decide (s0 = (ns.getD (i).toNat default).2.2.1))) && (decide (p0 = (ns.getD (i).toNat default).2.1))))]) (fun _ => ⟨rfl, trivial⟩) (FL.nil hK_11')
  ·refine FL.set 96 (fun _ => rfl) (congrArg zB hb) ?_
   refine FL.skip rfl (fun _ => rfl) rfl rfl ?_
   refine FL.skip rfl (fun _ => rfl) rfl rfl ?_
   refine FL.skip rfl (fun _ => rfl) rfl rfl ?_
   refine FL.skip rfl (fun _ => rfl) rfl rfl ?_
   refine FL.skip rfl (fun _ => rfl) rfl rfl ?_
   refine fv (fun _ => OV.pickF rfl rfl) ?_
   refine FL.set 102 (fun _ => rfl) (bF (v := decide (p0 = (ns.getD (i).toNat default).2.1)) hb) ?_
   exact FL.weak (L' := fun _ => [(102, zB ((((decide ((ns.getD (i).toNat default).1 = 3)) && (decide (p0 = (ns.getD (i).toNat default).2.1))) && (decide (s0 = (ns.getD (i).toNat default).2.2.1))) && (decide (p0 = (ns.getD (i).toNat default).2.1))))]) (fun _ => ⟨rfl, trivial⟩) (FL.nil hK_11')
 refine fv (fun _ => OV.assign rfl) ?_
 refine FL.weak (L' := fun _ => [(6, zB ((((decide ((ns.getD (i).toNat default).1 = 3)) && (decide (p0 = (ns.getD (i).toNat default).2.1))) && (decide (s0 = (ns.getD (i).toNat default).2.2.1))) && (decide (p0 = (ns.getD (i).toNat default).2.1))))]) (fun _ => ⟨rfl, trivial⟩) (FL.nil (hT (fun _ => [(6, zB ((((decide ((ns.getD (i).toNat default).1 = 3)) && (decide (p0 = (ns.getD (i).toNat default).2.1))) && (decide (s0 = (ns.getD (i).toNat default).2.2.1))) && (decide (p0 = (ns.getD (i).toNat default).2.1))))]) (fun _ => ?_)))
 refine kg (hK_8' [(6, zB ((((decide ((ns.getD (i).toNat default).1 = 3)) && (decide (p0 = (ns.getD (i).toNat default).2.1))) && (decide (s0 = (ns.getD (i).toNat default).2.2.1))) && (decide (p0 = (ns.getD (i).toNat default).2.1))))] _ ?_)
 refine b8 ?_
 exact hE.ret [] rfl rfl (.inl ⟨_, h, rfl⟩) (d7.of1 rfl (RV.tmp rfl))
def aea (wn : Value) (B : List (Nat × Obj)) (p0 : Int) (u1 : Value) (ns : List NdV) (dv : Value) (mn : Int) (i : Int) (js : List Int) (K : Bool → Prop) : Prop :=
 (0 ≤ i ∧ i < (ns.length : Int)) ∧
 (((ns.getD (i).toNat default).2.2.2).oneCell' = true) ∧
 (u1.oneCell' = true) ∧
 ((((decide ((ns.getD (i).toNat default).1 = 5)) && (decide (p0 = (ns.getD (i).toNat default).2.1))) && (decide (p0 = (ns.getD (i).toNat default).2.1))) = true → (s9 ((ns.getD (i).toNat default).2.2.2) B js.length (js.flatMap z7)) ∧ (0 ≤ (0 : Int) ∧ (0 : Int) < (js.length : Int)) ∧ (s9 ((ns.getD (i).toNat default).2.2.2) B js.length (js.flatMap z7)) ∧ (((0 : Int)).toNat < js.length) ∧ (abg B u1 (Value.agg [wn, dv, zI mn].toArray) (js.getD ((0 : Int)).toNat default))) ∧
 K ((((decide ((ns.getD (i).toNat default).1 = 5)) && (decide (p0 = (ns.getD (i).toNat default).2.1))) && (decide (p0 = (ns.getD (i).toNat default).2.1))) && true)
theorem aln (wn : Value) (B : List (Nat × Obj)) (p0 : Int) (u1 : Value) (ns : List NdV) (dv : Value) (mn : Int) (i : Int) (js : List Int) (hRi1 : s9 wn B ns.length (ns.flatMap ndC)) (K : Bool → Prop) (h : aea wn B p0 u1 ns dv mn i js K) :
  d9 Tryd.prog 11 [Value.iface 76 (Value.agg [zI p0, u1].toArray), Value.agg [wn, dv, zI mn].toArray, zI i] (B ++ []) [] (fun o => (∃ (v : Bool), K v ∧ o = .ret (zB v) []) ∨ (False)) := by
 unfold aea at h
 refine c8 (n := 273) (L0 := [(0, Value.iface 76 (Value.agg [zI p0, u1].toArray)), (1, Value.agg [wn, dv, zI mn].toArray), (2, zI i)]) Tryd.func11 rfl rfl rfl rfl (fun w0 M Q hE => ?_)
 have hi1 : LIn ⟨273, [], w0, M, (B ++ [])⟩ wn ns.length (ns.flatMap ndC) := s9.lin hRi1 (fun p hp => List.mem_append_left _ hp)
 refine a7 (fun _ hK => ?_)
 refine a6 ?_
 refine WL.make (MV.box (cs := [wn, dv, zI mn]) rfl rfl) rfl rfl rfl (fun b => ?_)
 refine wA ?_
 refine WL.nil ?_
 refine kg (hK [(0, Value.iface 76 (Value.agg [zI p0, u1].toArray)), (2, zI i), (4, zP b)] _ ?_)
 refine a7 (fun _ hK_1' => ?_)
 refine a6 ?_
 refine wv (OV.fieldAddr0 rfl r8) ?_
 refine wv (OV.load rfl (At.own 0 rfl) rfl aap) ?_
 refine wm ?_
 obtain ⟨o, h⟩ := h
 refine wv (OV.indexIn hi1 rfl rfl abo o) ?_
 refine wv (OV.loadInE (f := ndC) hi1 rfl ac8 (by decide) (by omega) acd) ?_
 refine WL.make (MV.alloc abw) rfl rfl rfl (fun b_1' => ?_)
 refine WL.nilRow 3 1 z7 ?_
 obtain ⟨o_1', h⟩ := h
 refine WL.storeW (vs := [zI ((ns.getD (i).toNat default).1), zI ((ns.getD (i).toNat default).2.1), st ((ns.getD (i).toNat default).2.2.1), (ns.getD (i).toNat default).2.2.2]) 1 rfl rfl rfl rfl rfl abv rfl (d4 rfl (d4 rfl (d4 rfl (d4 o_1' o6)))) rfl ?_
 refine WL.nil ?_
 refine kg (hK_1' [(0, Value.iface 76 (Value.agg [zI p0, u1].toArray)), (4, zP b), (7, zP b_1')] _ ?_)
 refine a7 (fun _ hK_2' => ?_)
 refine a7 (fun _ hK_3' => ?_)
 refine a6 ?_
 refine wm ?_
 refine WL.nil ?_
 refine kg (hK_3' [(4, zP b), (7, zP b_1'), (21, Value.iface 76 (Value.agg [zI p0, u1].toArray))] _ ?_)
 refine b7 ?_
 refine a7 (fun _ hK_4' => ?_)
 refine a6 ?_
 refine wv (OV.assertNo (t2 := 76) (v := Value.agg [zI p0, u1].toArray) rfl u7 x6 rfl) ?_
 refine wv (OV.extract 1 rfl rfl) ?_
 refine wv (OV.extract 0 rfl rfl) ?_
 refine WL.nil ?_
 refine kg (hK_4' [(4, zP b), (7, zP b_1'), (21, Value.iface 76 (Value.agg [zI p0, u1].toArray)), (23, zB false), (24, Value.agg [zI 0, st []].toArray)] _ ?_)
 refine d5 rfl ?_
 refine a7 (fun _ hK_5' => ?_)
 refine a6 ?_
 refine wv (OV.assertNo (t2 := 76) (v := Value.agg [zI p0, u1].toArray) rfl x9 aau rfl) ?_
 refine wv (OV.extract 1 rfl rfl) ?_
 refine wv (OV.extract 0 rfl rfl) ?_
 refine WL.nil ?_
 refine kg (hK_5' [(4, zP b), (7, zP b_1'), (21, Value.iface 76 (Value.agg [zI p0, u1].toArray)), (50, zB false), (51, Value.agg [zI 0, st []].toArray)] _ ?_)
 refine d5 rfl ?_
 refine a7 (fun _ hK_6' => ?_)
 refine a6 ?_
 refine wv (OV.assertNo (t2 := 76) (v := Value.agg [zI p0, u1].toArray) rfl aas abk rfl) ?_
 refine wv (OV.extract 1 rfl rfl) ?_
 refine wv (OV.extract 0 rfl rfl) ?_
 refine WL.nil ?_
 refine kg (hK_6' [(4, zP b), (7, zP b_1'), (21, Value.iface 76 (Value.agg [zI p0, u1].toArray)), (77, zB false), (78, Value.agg [zI 0, st []].toArray)] _ ?_)
 refine d5 rfl ?_
 refine a7 (fun _ hK_7' => ?_)
 refine a6 ?_
 refine wv (OV.assertYes (t' := 76) (v := Value.agg [zI p0, u1].toArray) rfl abl) ?_
 refine wv (OV.extract 1 rfl rfl) ?_
 refine wv (OV.extract 0 rfl rfl) ?_
 refine WL.nil ?_
 refine kg (hK_7' [(4, zP b), (7, zP b_1'), (21, Value.iface 76 (Value.agg [zI p0, u1].toArray)), (104, zB true), (105, Value.agg [zI p0, u1].toArray)] _ ?_)
 refine f7 rfl ?_
 refine a7 (fun _ hK_8' => ?_)
 refine a6 ?_
 refine WL.make (MV.alloc alb) rfl rfl rfl (fun b_2' => ?_)
 obtain ⟨o_2', h⟩ := h
 refine WL.storeW (vs := [zI p0, u1]) 0 rfl rfl rfl rfl rfl akr rfl (d4 rfl (d4 o_2' o6)) rfl ?_
 refine WL.nil ?_
 refine kg (hK_8' [(4, zP b), (7, zP b_1'), (11, zP b_2')] _ ?_)
 refine a7 (fun _ hK_9' => ?_)
 refine l8 [] f0 (by kernel_rfl) rfl (fun T hT => ?_)
 refine fv (fun _ => OV.fieldAddr0 rfl y7) ?_
 refine fv (fun _ => OV.load rfl (At.own 2 rfl) rfl a8) ?_
 refine fv (fun _ => OV.eql rfl rfl) ?_
 refine fv (fun _ => OV.move rfl) ?_
 refine FL.cut 6 rfl (fun _ => [(4, zP b), (7, zP b_1'), (11, zP b_2'), (115, zB ((decide ((ns.getD (i).toNat default).1 = 5)) && (decide (p0 = (ns.getD (i).toNat default).2.1))))]) ?_ (fun K0_10' hK_10' => ?_)
 rotate_left
 ·refine FL.split (decide ((ns.getD (i).toNat default).1 = 5)) (fun hb => ?_) (fun hb => ?_)
  ·refine FL.set 109 (fun _ => rfl) (congrArg zB hb) ?_
   refine fv (fun _ => OV.fieldAddr0 rfl ag5) ?_
   refine fv (fun _ => OV.load rfl (At.own 0 rfl) rfl a8) ?_
   refine fv (fun _ => OV.fieldAddr0 rfl l7) ?_
   refine fv (fun _ => OV.load rfl (At.own 2 rfl) rfl a8) ?_
   refine fv (fun _ => OV.eql rfl rfl) ?_
   refine fv (fun _ => OV.pickT rfl rfl) ?_
   refine FL.set 115 (fun _ => rfl) (bT (v := decide (p0 = (ns.getD (i).toNat default).2.1)) hb) ?_
   exact FL.weak (L' := fun _ => [(4, zP b), (7, zP b_1'), (11, zP b_2'), (115, zB ((decide ((ns.getD (i).toNat default).1 = 5)) && (decide (p0 = (ns.getD (i).toNat default).2.1))))]) (fun _ => ⟨rfl, rfl, rfl, rfl, trivial⟩) (FL.nil hK_10')
  ·refine FL.set 109 (fun _ => rfl) (congrArg zB hb) ?_
   refine FL.skip rfl (fun _ => rfl) rfl rfl ?_
   refine FL.skip rfl (fun _ => rfl) rfl rfl ?_
   refine FL.skip rfl (fun _ => rfl) rfl rfl ?_
   refine FL.skip rfl (fun _ => rfl) rfl rfl ?_
   refine FL.skip rfl (fun _ => rfl) rfl rfl ?_
   refine fv (fun _ => OV.pickF rfl rfl) ?_
   refine FL.set 115 (fun _ => rfl) (bF (v := decide (p0 = (ns.getD (i).toNat default).2.1)) hb) ?_
   exact FL.weak (L' := fun _ => [(4, zP b), (7, zP b_1'), (11, zP b_2'), (115, zB ((decide ((ns.getD (i).toNat default).1 = 5)) && (decide (p0 = (ns.getD (i).toNat default).2.1))))]) (fun _ => ⟨rfl, rfl, rfl, rfl, trivial⟩) (FL.nil hK_10')
 refine fv (fun _ => OV.move rfl) ?_
 refine FL.cut 6 rfl (fun _ => [(4, zP b), (7, zP b_1'), (11, zP b_2'), (122, zB (((decide ((ns.getD (i).toNat default).1 = 5)) && (decide (p0 = (ns.getD (i).toNat default).2.1))) && (decide (p0 = (ns.getD (i).toNat default).2.1))))]) ?_ (fun K0_11' hK_11' => ?_)
 rotate_left
 ·refine FL.split ((decide ((ns.getD (i).toNat default).1 = 5)) && (decide (p0 = (ns.getD (i).toNat default).2.1))) (fun hb => ?_) (fun hb => ?_)
  ·refine FL.set 116 (fun _ => rfl) (congrArg zB hb) ?_
   refine fv (fun _ => OV.loadR rfl (At.own 0 rfl) as3) ?_
   refine FL.call asj (fun _ => rfl) ((agl p0 u1 (fun d => d = p0) (by unfold act; rfl)).weak (fun x h => u6 h)) trivial rfl (fun _ => rfl) rfl ?_
   refine fv (fun _ => OV.fieldAddr0 rfl l7) ?_
   refine fv (fun _ => OV.load rfl (At.own 2 rfl) rfl a8) ?_
   refine fv (fun _ => OV.eql rfl rfl) ?_
   refine fv (fun _ => OV.pickT rfl rfl) ?_
   refine FL.set 122 (fun _ => rfl) (bT (v := decide (p0 = (ns.getD (i).toNat default).2.1)) hb) ?_
   exact FL.weak (L' := fun _ => [(4, zP b), (7, zP b_1'), (11, zP b_2'), (122, zB (((decide ((ns.getD (i).toNat default).1 = 5)) && (decide (p0 = (ns.getD (i).toNat default).2.1))) && (decide (p0 = (ns.getD (i).toNat default).2.1))))]) (fun _ => ⟨rfl, rfl, rfl, rfl, trivial⟩) (FL.nil hK_11')
  ·refine FL.set 116 (fun _ => rfl) (congrArg zB hb) ?_
   refine FL.skip rfl (fun _ => rfl) rfl rfl ?_
   refine FL.skip rfl (fun _ => rfl) rfl rfl ?_
   refine FL.skip rfl (fun _ => rfl) rfl rfl ?_
   refine FL.skip rfl (fun _ => rfl) rfl rfl ?_
   refine FL.skip rfl (fun _ => rfl) rfl rfl ?_
   refine fv (fun _ => OV.pickF rfl rfl) ?_
   refine FL.set 122 (fun _ => rfl) (bF (v := decide (p0 = (ns.getD (i).toNat default).2.1)) hb) ?_
   exact FL.weak (L' := fun _ => [(4, zP b), (7, zP b_1'), (11, zP b_2'), (122, zB (((decide ((ns.getD (i).toNat default).1 = 5)) && (decide (p0 = (ns.getD (i).toNat default).2.1))) && (decide (p0 = (ns.getD (i).toNat default).2.1))))]) (fun _ => ⟨rfl, rfl, rfl, rfl, trivial⟩) (FL.nil hK_11')
 refine fv (fun _ => OV.move rfl) ?_
 obtain ⟨o_10', h⟩ := h
 refine FL.cut 9 rfl (fun _ => [(132, zB ((((decide ((ns.getD (i).toNat default).1 = 5)) && (decide (p0 = (ns.getD (i).toNat default).2.1))) && (decide (p0 = (ns.getD (i).toNat default).2.1))) && true))]) ?_ (fun K0_12' hK_12' => ?_)
 rotate_left
 ·refine FL.split (((decide ((ns.getD (i).toNat default).1 = 5)) && (decide (p0 = (ns.getD (i).toNat default).2.1))) && (decide (p0 = (ns.getD (i).toNat default).2.1))) (fun hb => ?_) (fun hb => ?_)
  ·obtain ⟨o_5', o_6', o_7', o_8', o_9'⟩ := o_10' hb
   refine FL.set 123 (fun _ => rfl) (congrArg zB hb) ?_
   refine fv (fun _ => OV.fieldAddr0 rfl agn) ?_
   refine fv (fun _ => OV.load rfl (At.own 0 rfl) rfl m4) ?_
   refine fv (fun _ => OV.loadR rfl (At.own 3 rfl) aai) ?_
   refine fv (fun _ => OV.fieldAddr0 rfl y9) ?_
   refine fv (fun _ => OV.load rfl (At.own 2 rfl) rfl abx) ?_
   refine fv (fun _ => OV.indexIn (s9.lin o_5' (fun p hp => List.mem_append_left _ hp)) rfl rfl aat o_6') ?_
   refine fv (fun _ => OV.loadInE1 (f := z7) (l := js) (s9.lin o_7' (fun p hp => List.mem_append_left _ hp)) rfl ab6 o_8' rfl a8) ?_
   refine FL.call ab9 (fun _ => rfl) (o_9') (ROk.of (fun _ h => h)) rfl (fun _ => rfl) rfl ?_
   refine fv (fun _ => OV.pickT rfl rfl) ?_
   refine FL.set 132 (fun _ => rfl) (bT (v := true) hb) ?_
   exact FL.weak (L' := fun _ => [(132, zB ((((decide ((ns.getD (i).toNat default).1 = 5)) && (decide (p0 = (ns.getD (i).toNat default).2.1))) && (decide (p0 = (ns.getD (i).toNat default).2.1))) && true))]) (fun _ => ⟨rfl, trivial⟩) (FL.nil hK_12')
  ·refine FL.set 123 (fun _ => rfl) (congrArg zB hb) ?_
   refine FL.skip rfl (fun _ => rfl) rfl rfl ?_
   refine FL.skip rfl (fun _ => rfl) rfl rfl ?_
   refine FL.skip rfl (fun _ => rfl) rfl rfl ?_
   refine FL.skip rfl (fun _ => rfl) rfl rfl ?_
   refine FL.skip rfl (fun _ => rfl) rfl rfl ?_
   refine FL.skip rfl (fun _ => rfl) rfl rfl ?_
   refine FL.skip rfl (fun _ => rfl) rfl rfl ?_
   refine FL.skip rfl (fun _ => rfl) rfl rfl ?_
   refine fv (fun _ => OV.pickF rfl rfl) ?_
   refine FL.set 132 (fun _ => rfl) (bF (v := true) hb) ?_
   exact FL.weak (L' := fun _ => [(132, zB ((((decide ((ns.getD (i).toNat default).1 = 5)) && (decide (p0 = (ns.getD (i).toNat default).2.1))) && (decide (p0 = (ns.getD (i).toNat default).2.1))) && true))]) (fun _ => ⟨rfl, trivial⟩) (FL.nil hK_12')
 refine fv (fun _ => OV.assign rfl) ?_
 refine FL.weak (L' := fun _ => [(6, zB ((((decide ((ns.getD (i).toNat default).1 = 5)) && (decide (p0 = (ns.getD (i).toNat default).2.1))) && (decide (p0 = (ns.getD (i).toNat default).2.1))) && true))]) (fun _ => ⟨rfl, trivial⟩) (FL.nil (hT (fun _ => [(6, zB ((((decide ((ns.getD (i).toNat default).1 = 5)) && (decide (p0 = (ns.getD (i).toNat default).2.1))) && (decide (p0 = (ns.getD (i).toNat default).2.1))) && true))]) (fun _ => ?_)))
 refine kg (hK_9' [(6, zB ((((decide ((ns.getD (i).toNat default).1 = 5)) && (decide (p0 = (ns.getD (i).toNat default).2.1))) && (decide (p0 = (ns.getD (i).toNat default).2.1))) && true))] _ ?_)
 refine b8 ?_
 exact hE.ret [] rfl rfl (.inl ⟨_, h, rfl⟩) (d7.of1 rfl (RV.tmp rfl))
def aee (wn : Value) (B : List (Nat × Obj)) (p0 : Int) (s0 : List UInt8) (u1 : Value) (ns : List NdV) (dv : Value) (mn : Int) (i : Int) (js : List Int) (K : Bool → Prop) : Prop :=
 (0 ≤ i ∧ i < (ns.length : Int)) ∧
 (((ns.getD (i).toNat default).2.2.2).oneCell' = true) ∧
 (u1.oneCell' = true) ∧
 (((((decide ((ns.getD (i).toNat default).1 = 6)) && (decide (p0 = (ns.getD (i).toNat default).2.1))) && (decide (s0 = (ns.getD (i).toNat default).2.2.1))) && (decide (p0 = (ns.getD (i).toNat default).2.1))) = true → (s9 ((ns.getD (i).toNat default).2.2.2) B js.length (js.flatMap z7)) ∧ (0 ≤ (0 : Int) ∧ (0 : Int) < (js.length : Int)) ∧ (s9 ((ns.getD (i).toNat default).2.2.2) B js.length (js.flatMap z7)) ∧ (((0 : Int)).toNat < js.length) ∧ (abg B u1 (Value.agg [wn, dv, zI mn].toArray) (js.getD ((0 : Int)).toNat default))) ∧
 K (((((decide ((ns.getD (i).toNat default).1 = 6)) && (decide (p0 = (ns.getD (i).toNat default).2.1))) && (decide (s0 = (ns.getD (i).toNat default).2.2.1))) && (decide (p0 = (ns.getD (i).toNat default).2.1))) && true)
theorem alw (wn : Value) (B : List (Nat × Obj)) (p0 : Int) (s0 : List UInt8) (u1 : Value) (ns : List NdV) (dv : Value) (mn : Int) (i : Int) (js : List Int) (hRi1 : s9 wn B ns.length (ns.flatMap ndC)) (K : Bool → Prop) (h : aee wn B p0 s0 u1 ns dv mn i js K) :
  d9 Tryd.prog 11 [Value.iface 78 (Value.agg [zI p0, st s0, u1].toArray), Value.agg [wn, dv, zI mn].toArray, zI i] (B ++ []) [] (fun o => (∃ (v : Bool), K v ∧ o = .ret (zB v) []) ∨ (False)) := by
 unfold aee at h
 refine c8 (n := 273) (L0 := [(0, Value.iface 78 (Value.agg [zI p0, st s0, u1].toArray)), (1, Value.agg [wn, dv, zI mn].toArray), (2, zI i)]) Tryd.func11 rfl rfl rfl rfl (fun w0 M Q hE => ?_)
 have hi1 : LIn ⟨273, [], w0, M, (B ++ [])⟩ wn ns.length (ns.flatMap ndC) := s9.lin hRi1 (fun p hp => List.mem_append_left _ hp)
 refine a7 (fun _ hK => ?_)
 refine a6 ?_
 refine WL.make (MV.box (cs := [wn, dv, zI mn]) rfl rfl) rfl rfl rfl (fun b => ?_)
 refine wA ?_
 refine WL.nil ?_
 refine kg (hK [(0, Value.iface 78 (Value.agg [zI p0, st s0, u1].toArray)), (2, zI i), (4, zP b)] _ ?_)
 refine a7 (fun _ hK_1' => ?_)
 refine a6 ?_
 refine wv (OV.fieldAddr0 rfl r8) ?_
 refine wv (OV.load rfl (At.own 0 rfl) rfl aap) ?_
 refine wm ?_
 obtain ⟨o, h⟩ := h
 refine wv (OV.indexIn hi1 rfl rfl abo o) ?_
 refine wv (OV.loadInE (f := ndC) hi1 rfl ac8 (by decide) (by omega) acd) ?_
 refine WL.make (MV.alloc abw) rfl rfl rfl (fun b_1' => ?_)
 refine WL.nilRow 3 1 z7 ?_
 obtain ⟨o_1', h⟩ := h
 refine WL.storeW (vs := [zI ((ns.getD (i).toNat default).1), zI ((ns.getD (i).toNat default).2.1), st ((ns.getD (i).toNat default).2.2.1), (ns.getD (i).toNat default).2.2.2]) 1 rfl rfl rfl rfl rfl abv rfl (d4 rfl (d4 rfl (d4 rfl (d4 o_1' o6)))) rfl ?_
 refine WL.nil ?_
 refine kg (hK_1' [(0, Value.iface 78 (Value.agg [zI p0, st s0, u1].toArray)), (4, zP b), (7, zP b_1')] _ ?_)
 refine a7 (fun _ hK_2' => ?_)
 refine a7 (fun _ hK_3' => ?_)
 refine a6 ?_
 refine wm ?_
 refine WL.nil ?_
 refine kg (hK_3' [(4, zP b), (7, zP b_1'), (21, Value.iface 78 (Value.agg [zI p0, st s0, u1].toArray))] _ ?_)
 refine b7 ?_
 refine a7 (fun _ hK_4' => ?_)
 refine a6 ?_
 refine wv (OV.assertNo (t2 := 78) (v := Value.agg [zI p0, st s0, u1].toArray) rfl u7 x6 rfl) ?_
 refine wv (OV.extract 1 rfl rfl) ?_
 refine wv (OV.extract 0 rfl rfl) ?_
 refine WL.nil ?_
 refine kg (hK_4' [(4, zP b), (7, zP b_1'), (21, Value.iface 78 (Value.agg [zI p0, st s0, u1].toArray)), (23, zB false), (24, Value.agg [zI 0, st []].toArray)] _ ?_)
 refine d5 rfl ?_
 refine a7 (fun _ hK_5' => ?_)
 refine a6 ?_
 refine wv (OV.assertNo (t2 := 78) (v := Value.agg [zI p0, st s0, u1].toArray) rfl x9 aau rfl) ?_
 refine wv (OV.extract 1 rfl rfl) ?_
 refine wv (OV.extract 0 rfl rfl) ?_
 refine WL.nil ?_
 refine kg (hK_5' [(4, zP b), (7, zP b_1'), (21, Value.iface 78 (Value.agg [zI p0, st s0, u1].toArray)), (50, zB false), (51, Value.agg [zI 0, st []].toArray)] _ ?_)
 refine d5 rfl ?_
 refine a7 (fun _ hK_6' => ?_)
 refine a6 ?_
 refine wv (OV.assertNo (t2 := 78) (v := Value.agg [zI p0, st s0, u1].toArray) rfl aas abk rfl) ?_
 refine wv (OV.extract 1 rfl rfl) ?_
 refine wv (OV.extract 0 rfl rfl) ?_
 refine WL.nil ?_
 refine kg (hK_6' [(4, zP b), (7, zP b_1'), (21, Value.iface 78 (Value.agg [zI p0, st s0, u1].toArray)), (77, zB false), (78, Value.agg [zI 0, st []].toArray)] _ ?_)
 refine d5 rfl ?_
 refine a7 (fun _ hK_7' => ?_)
 refine a6 ?_
 refine wv (OV.assertNo (t2 := 78) (v := Value.agg [zI p0, st s0, u1].toArray) rfl abl ac0 rfl) ?_
 refine wv (OV.extract 1 rfl rfl) ?_
 refine wv (OV.extract 0 rfl rfl) ?_
 refine WL.nil ?_
 refine kg (hK_7' [(4, zP b), (7, zP b_1'), (21, Value.iface 78 (Value.agg [zI p0, st s0, u1].toArray)), (104, zB false), (105, Value.agg [zI 0, Value.nilIface].toArray)] _ ?_)
 refine d5 rfl ?_
 refine a7 (fun _ hK_8' => ?_)
 refine a6 ?_
 refine wv (OV.assertYes (t' := 78) (v := Value.agg [zI p0, st s0, u1].toArray) rfl w9) ?_
 refine wv (OV.extract 1 rfl rfl) ?_
 refine wv (OV.extract 0 rfl rfl) ?_
 refine WL.nil ?_
 refine kg (hK_8' [(4, zP b), (7, zP b_1'), (21, Value.iface 78 (Value.agg [zI p0, st s0, u1].toArray)), (134, zB true), (135, Value.agg [zI p0, st s0, u1].toArray)] _ ?_)
 refine f7 rfl ?_
 refine a7 (fun _ hK_9' => ?_)
 refine a6 ?_
 refine WL.make (MV.alloc adq) rfl rfl rfl (fun b_2' => ?_)
 obtain ⟨o_2', h⟩ := h
 refine WL.storeW (vs := [zI p0, st s0, u1]) 0 rfl rfl rfl rfl rfl adn rfl (d4 rfl (d4 rfl (d4 o_2' o6))) rfl ?_
 refine WL.nil ?_
 refine kg (hK_9' [(4, zP b), (7, zP b_1'), (12, zP b_2')] _ ?_)
 refine a7 (fun _ hK_10' => ?_)
 refine l8 [] f0 (by kernel_rfl) rfl (fun T hT => ?_)
 refine fv (fun _ => OV.fieldAddr0 rfl y7) ?_
 refine fv (fun _ => OV.load rfl (At.own 2 rfl) rfl a8) ?_
 refine fv (fun _ => OV.eql rfl rfl) ?_
 refine fv (fun _ => OV.move rfl) ?_
 refine FL.cut 6 rfl (fun _ => [(4, zP b), (7, zP b_1'), (12, zP b_2'), (145, zB ((decide ((ns.getD (i).toNat default).1 = 6)) && (decide (p0 = (ns.getD (i).toNat default).2.1))))]) ?_ (fun K0_11' hK_11' => ?_)
 rotate_left
 ·refine FL.split (decide ((ns.getD (i).toNat default).1 = 6)) (fun hb => ?_) (fun hb => ?_)
  ·refine FL.set 139 (fun _ => rfl) (congrArg zB hb) ?_
   refine fv (fun _ => OV.fieldAddr0 rfl agq) ?_
   refine fv (fun _ => OV.load rfl (At.own 0 rfl) rfl a8) ?_
   refine fv (fun _ => OV.fieldAddr0 rfl l7) ?_
   refine fv (fun _ => OV.load rfl (At.own 2 rfl) rfl a8) ?_
   refine fv (fun _ => OV.eql rfl rfl) ?_
   refine fv (fun _ => OV.pickT rfl rfl) ?_
   refine FL.set 145 (fun _ => rfl) (bT (v := decide (p0 = (ns.getD (i).toNat default).2.1)) hb) ?_
   exact FL.weak (L' := fun _ => [(4, zP b), (7, zP b_1'), (12, zP b_2'), (145, zB ((decide ((ns.getD (i).toNat default).1 = 6)) && (decide (p0 = (ns.getD (i).toNat default).2.1))))]) (fun _ => ⟨rfl, rfl, rfl, rfl, trivial⟩) (FL.nil hK_11')
  ·refine FL.set 139 (fun _ => rfl) (congrArg zB hb) ?_
   refine FL.skip rfl (fun _ => rfl) rfl rfl ?_
   refine FL.skip rfl (fun _ => rfl) rfl rfl ?_
   refine FL.skip rfl (fun _ => rfl) rfl rfl ?_
   refine FL.skip rfl (fun _ => rfl) rfl rfl ?_
   refine FL.skip rfl (fun _ => rfl) rfl rfl ?_
   refine fv (fun _ => OV.pickF rfl rfl) ?_
   refine FL.set 145 (fun _ => rfl) (bF (v := decide (p0 = (ns.getD (i).toNat default).2.1)) hb) ?_
   exact FL.weak (L' := fun _ => [(4, zP b), (7, zP b_1'), (12, zP b_2'), (145, zB ((decide ((ns.getD (i).toNat default).1 = 6)) && (decide (p0 = (ns.getD (i).toNat default).2.1))))]) (fun _ => ⟨rfl, rfl, rfl, rfl, trivial⟩) (FL.nil hK_11')
 refine fv (fun _ => OV.move rfl) ?_
 refine FL.cut 6 rfl (fun _ => [(4, zP b), (7, zP b_1'), (12, zP b_2'), (152, zB (((decide ((ns.getD (i).toNat default).1 = 6)) && (decide (p0 = (ns.getD (i).toNat default).2.1))) && (decide (s0 = (ns.getD (i).toNat default).2.2.1))))]) ?_ (fun K0_12' hK_12' => ?_)
 rotate_left
 ·refine FL.split ((decide ((ns.getD (i).toNat default).1 = 6)) && (decide (p0 = (ns.getD (i).toNat default).2.1))) (fun hb => ?_) (fun hb => ?_)
  ·refine FL.set 146 (fun _ => rfl) (congrArg zB hb) ?_
   refine fv (fun _ => OV.fieldAddr0 rfl aek) ?_
   refine fv (fun _ => OV.load rfl (At.own 0 rfl) rfl c7) ?_
   refine fv (fun _ => OV.fieldAddr0 rfl aay) ?_
   refine fv (fun _ => OV.load rfl (At.own 2 rfl) rfl c7) ?_
   refine fv (fun _ => OV.eqlS rfl rfl) ?_
   refine fv (fun _ => OV.pickT rfl rfl) ?_
   refine FL.set 152 (fun _ => rfl) (bT (v := decide (s0 = (ns.getD (i).toNat default).2.2.1)) hb) ?_
   exact FL.weak (L' := fun _ => [(4, zP b), (7, zP b_1'), (12, zP b_2'), (152, zB (((decide ((ns.getD (i).toNat default).1 = 6)) && (decide (p0 = (ns.getD (i).toNat default).2.1))) && (decide (s0 = (ns.getD (i).toNat default).2.2.1))))]) (fun _ => ⟨rfl, rfl, rfl, rfl, trivial⟩) (FL.nil hK_12')
  ·refine FL.set 146 (fun _ => rfl) (congrArg zB hb) ?_
   refine FL.skip rfl (fun _ => rfl) rfl rfl ?_
   refine FL.skip rfl (fun _ => rfl) rfl rfl ?_
   refine FL.skip rfl (fun _ => rfl) rfl rfl ?_
   refine FL.skip rfl (fun _ => rfl) rfl rfl ?_
   refine FL.skip rfl (fun _ => rfl) rfl rfl ?_
   refine fv (fun _ => OV.pickF rfl rfl) ?_
   refine FL.set 152 (fun _ => rfl) (bF (v := decide (s0 = (ns.getD (i).toNat default).2.2.1)) hb) ?_
   exact FL.weak (L' := fun _ => [(4, zP b), (7, zP b_1'), (12, zP b_2'), (152, zB (((decide ((ns.getD (i).toNat default).1 = 6)) && (decide (p0 = (ns.getD (i).toNat default).2.1))) && (decide (s0 = (ns.getD (i).toNat default).2.2.1))))]) (fun _ => ⟨rfl, rfl, rfl, rfl, trivial⟩) (FL.nil hK_12')
 refine fv (fun _ => OV.move rfl) ?_
 refine FL.cut 6 rfl (fun _ => [(4, zP b), (7, zP b_1'), (12, zP b_2'), (159, zB ((((decide ((ns.getD (i).toNat default).1 = 6)) && (decide (p0 = (ns.getD (i).toNat default).2.1))) && (decide (s0 = (ns.getD (i).toNat default).2.2.1))) && (decide (p0 = (ns.getD (i).toNat default).2.1))))]) ?_ (fun K0_13' hK_13' => ?_)
 rotate_left
 ·refine FL.split (((decide ((ns.getD (i).toNat default).1 = 6)) && (decide (p0 = (ns.getD (i).toNat default).2.1))) && (decide (s0 = (ns.getD (i).toNat default).2.2.1))) (fun hb => ?_) (fun hb => ?_)
  ·refine FL.set 153 (fun _ => rfl) (congrArg zB hb) ?_
   refine fv (fun _ => OV.loadR rfl (At.own 0 rfl) as4) ?_
   refine FL.call at3 (fun _ => rfl) ((ag6 p0 s0 u1 (fun d => d = p0) (by unfold acs; rfl)).weak (fun x h => u6 h)) trivial rfl (fun _ => rfl) rfl ?_
   refine fv (fun _ => OV.fieldAddr0 rfl l7) ?_
   refine fv (fun _ => OV.load rfl (At.own 2 rfl) rfl a8) ?_
   refine fv (fun _ => OV.eql rfl rfl) ?_
   refine fv (fun _ => OV.pickT rfl rfl) ?_
   refine FL.set 159 (fun _ => rfl) (bT (v := decide (p0 = (ns.getD (i).toNat default).2.1)) hb) ?_
   exact FL.weak (L' := fun _ => [(4, zP b), (7, zP b_1'), (12, zP b_2'), (159, zB ((((decide ((ns.getD (i).toNat default).1 = 6)) && (decide (p0 = (ns.getD (i).toNat default).2.1))) && (decide (s0 = (ns.getD (i).toNat default).2.2.1))) && (decide (p0 = (ns.getD (i).toNat default).2.1))))]) (fun _ => ⟨rfl, rfl, rfl, rfl, trivial⟩) (FL.nil hK_13')
  ·refine FL.set 153 (fun _ => rfl) (congrArg zB hb) ?_
   refine FL.skip rfl (fun _ => rfl) rfl rfl ?_
   refine FL.skip rfl (fun _ => rfl) rfl rfl ?_
   refine FL.skip rfl (fun _ => rfl) rfl rfl ?_
   refine FL.skip rfl (fun _ => rfl) rfl rfl ?_
   refine FL.skip rfl (fun _ => rfl) rfl rfl ?_
   refine fv (fun _ => OV.pickF rfl rfl) ?_
   refine FL.set 159 (fun _ => rfl) (bF (v := decide (p0 = (ns.getD (i).toNat default).2.1)) hb) ?_
   exact FL.weak (L' := fun _ => [(4, zP b), (7, zP b_1'), (12, zP b_2'), (159, zB ((((decide ((ns.getD (i).toNat default).1 = 6)) && (decide (p0 = (ns.getD (i).toNat default).2.1))) && (decide (s0 = (ns.getD (i).toNat default).2.2.1))) && (decide (p0 = (ns.getD (i).toNat default).2.1))))]) (fun _ => ⟨rfl, rfl, rfl, rfl, trivial⟩) (FL.nil hK_13')
 refine fv (fun _ => OV.move rfl) ?_
 obtain ⟨o_11', h⟩ := h
 refine FL.cut 9 rfl (fun _ => [(169, zB (((((decide ((ns.getD (i).toNat default).1 = 6)) && (decide (p0 = (ns.getD (i).toNat default).2.1))) && (decide (s0 = (ns.getD (i).toNat default).2.2.1))) && (decide (p0 = (ns.getD (i).toNat default).2.1))) && true))]) ?_ (fun K0_14' hK_14' => ?_)
 rotate_left
 ·refine FL.split ((((decide ((ns.getD (i).toNat default).1 = 6)) && (decide (p0 = (ns.getD (i).toNat default).2.1))) && (decide (s0 = (ns.getD (i).toNat default).2.2.1))) && (decide (p0 = (ns.getD (i).toNat default).2.1))) (fun hb => ?_) (fun hb => ?_)
  ·obtain ⟨o_6', o_7', o_8', o_9', o_10'⟩ := o_11' hb
   refine FL.set 160 (fun _ => rfl) (congrArg zB hb) ?_
   refine fv (fun _ => OV.fieldAddr0 rfl aei) ?_
   refine fv (fun _ => OV.load rfl (At.own 0 rfl) rfl m4) ?_
   refine fv (fun _ => OV.loadR rfl (At.own 3 rfl) aai) ?_
   refine fv (fun _ => OV.fieldAddr0 rfl y9) ?_
   refine fv (fun _ => OV.load rfl (At.own 2 rfl) rfl abx) ?_
   refine fv (fun _ => OV.indexIn (s9.lin o_6' (fun p hp => List.mem_append_left _ hp)) rfl rfl aat o_7') ?_
   refine fv (fun _ => OV.loadInE1 (f := z7) (l := js) (s9.lin o_8' (fun p hp => List.mem_append_left _ hp)) rfl ab6 o_9' rfl a8) ?_
   refine FL.call ab9 (fun _ => rfl) (o_10') (ROk.of (fun _ h => h)) rfl (fun _ => rfl) rfl ?_
   refine fv (fun _ => OV.pickT rfl rfl) ?_
   refine FL.set 169 (fun _ => rfl) (bT (v := true) hb) ?_
   exact FL.weak (L' := fun _ => [(169, zB (((((decide ((ns.getD (i).toNat default).1 = 6)) && (decide (p0 = (ns.getD (i).toNat default).2.1))) && (decide (s0 = (ns.getD (i).toNat default).2.2.1))) && (decide (p0 = (ns.getD (i).toNat default).2.1))) && true))]) (fun _ => ⟨rfl, trivial⟩) (FL.nil hK_14')
  ·refine FL.set 160 (fun _ => rfl) (congrArg zB hb) ?_
   refine FL.skip rfl (fun _ => rfl) rfl rfl ?_
   refine FL.skip rfl (fun _ => rfl) rfl rfl ?_
   refine FL.skip rfl (fun _ => rfl) rfl rfl ?_
   refine FL.skip rfl (fun _ => rfl) rfl rfl ?_
   refine FL.skip rfl (fun _ => rfl) rfl rfl ?_
   refine FL.skip rfl (fun _ => rfl) rfl rfl ?_
   refine FL.skip rfl (fun _ => rfl) rfl rfl ?_
   refine FL.skip rfl (fun _ => rfl) rfl rfl ?_
   refine fv (fun _ => OV.pickF rfl rfl) ?_
   refine FL.set 169 (fun _ => rfl) (bF (v := true) hb) ?_
   exact FL.weak (L' := fun _ => [(169, zB (((((decide ((ns.getD (i).toNat default).1 = 6)) && (decide (p0 = (ns.getD (i).toNat default).2.1))) && (decide (s0 = (ns.getD (i).toNat default).2.2.1))) && (decide (p0 = (ns.getD (i).toNat default).2.1))) && true))]) (fun _ => ⟨rfl, trivial⟩) (FL.nil hK_14')
 refine fv (fun _ => OV.assign rfl) ?_
 refine FL.weak (L' := fun _ => [(6, zB (((((decide ((ns.getD (i).toNat default).1 = 6)) && (decide (p0 = (ns.getD (i).toNat default).2.1))) && (decide (s0 = (ns.getD (i).toNat default).2.2.1))) && (decide (p0 = (ns.getD (i).toNat default).2.1))) && true))]) (fun _ => ⟨rfl, trivial⟩) (FL.nil (hT (fun _ => [(6, zB (((((decide ((ns.getD (i).toNat default).1 = 6)) && (decide (p0 = (ns.getD (i).toNat default).2.1))) && (decide (s0 = (ns.getD (i).toNat default).2.2.1))) && (decide (p0 = (ns.getD (i).toNat default).2.1))) && true))]) (fun _ => ?_)))
 refine kg (hK_10' [(6, zB (((((decide ((ns.getD (i).toNat default).1 = 6)) && (decide (p0 = (ns.getD (i).toNat default).2.1))) && (decide (s0 = (ns.getD (i).toNat default).2.2.1))) && (decide (p0 = (ns.getD (i).toNat default).2.1))) && true))] _ ?_)
 refine b8 ?_
 exact hE.ret [] rfl rfl (.inl ⟨_, h, rfl⟩) (d7.of1 rfl (RV.tmp rfl))
def adi (wn : Value) (B : List (Nat × Obj)) (p0 : Int) (s0 : List UInt8) (u1 : Value) (u2 : Value) (ns : List NdV) (dv : Value) (mn : Int) (i : Int) (js : List Int) (K : Bool → Prop) : Prop :=
 (0 ≤ i ∧ i < (ns.length : Int)) ∧
 (((ns.getD (i).toNat default).2.2.2).oneCell' = true) ∧
 (u1.oneCell' = true) ∧
 (u2.oneCell' = true) ∧
 (((((decide ((ns.getD (i).toNat default).1 = 7)) && (decide (p0 = (ns.getD (i).toNat default).2.1))) && (decide (s0 = (ns.getD (i).toNat default).2.2.1))) && (decide (p0 = (ns.getD (i).toNat default).2.1))) = true → (s9 ((ns.getD (i).toNat default).2.2.2) B js.length (js.flatMap z7)) ∧ (0 ≤ (0 : Int) ∧ (0 : Int) < (js.length : Int)) ∧ (s9 ((ns.getD (i).toNat default).2.2.2) B js.length (js.flatMap z7)) ∧ (((0 : Int)).toNat < js.length) ∧ (abg B u1 (Value.agg [wn, dv, zI mn].toArray) (js.getD ((0 : Int)).toNat default))) ∧
 ((((((decide ((ns.getD (i).toNat default).1 = 7)) && (decide (p0 = (ns.getD (i).toNat default).2.1))) && (decide (s0 = (ns.getD (i).toNat default).2.2.1))) && (decide (p0 = (ns.getD (i).toNat default).2.1))) && true) = true → (s9 ((ns.getD (i).toNat default).2.2.2) B js.length (js.flatMap z7)) ∧ (0 ≤ (1 : Int) ∧ (1 : Int) < (js.length : Int)) ∧ (s9 ((ns.getD (i).toNat default).2.2.2) B js.length (js.flatMap z7)) ∧ (((1 : Int)).toNat < js.length) ∧ (abg B u2 (Value.agg [wn, dv, zI mn].toArray) (js.getD ((1 : Int)).toNat default))) ∧
 K ((((((decide ((ns.getD (i).toNat default).1 = 7)) && (decide (p0 = (ns.getD (i).toNat default).2.1))) && (decide (s0 = (ns.getD (i).toNat default).2.2.1))) && (decide (p0 = (ns.getD (i).toNat default).2.1))) && true) && true)
theorem akj (wn : Value) (B : List (Nat × Obj)) (p0 : Int) (s0 : List UInt8) (u1 : Value) (u2 : Value) (ns : List NdV) (dv : Value) (mn : Int) (i : Int) (js : List Int) (hRi1 : s9 wn B ns.length (ns.flatMap ndC)) (K : Bool → Prop) (h : adi wn B p0 s0 u1 u2 ns dv mn i js K) :
  d9 Tryd.prog 11 [Value.iface 80 (Value.agg [zI p0, st s0, u1, u2].toArray), Value.agg [wn, dv, zI mn].toArray, zI i] (B ++ []) [] (fun o => (∃ (v : Bool), K v ∧ o = .ret (zB v) []) ∨ (False)) := by
 unfold adi at h
 refine c8 (n := 273) (L0 := [(0, Value.iface 80 (Value.agg [zI p0, st s0, u1, u2].toArray)), (1, Value.agg [wn, dv, zI mn].toArray), (2, zI i)]) Tryd.func11 rfl rfl rfl rfl (fun w0 M Q hE => ?_)
 have hi1 : LIn ⟨273, [], w0, M, (B ++ [])⟩ wn ns.length (ns.flatMap ndC) := s9.lin hRi1 (fun p hp => List.mem_append_left _ hp)
 refine a7 (fun _ hK => ?_)
 refine a6 ?_
 refine WL.make (MV.box (cs := [wn, dv, zI mn]) rfl rfl) rfl rfl rfl (fun b => ?_)
 refine wA ?_
 refine WL.nil ?_
 refine kg (hK [(0, Value.iface 80 (Value.agg [zI p0, st s0, u1, u2].toArray)), (2, zI i), (4, zP b)] _ ?_)
 refine a7 (fun _ hK_1' => ?_)
 refine a6 ?_
 refine wv (OV.fieldAddr0 rfl r8) ?_
 refine wv (OV.load rfl (At.own 0 rfl) rfl aap) ?_
 refine wm ?_
 obtain ⟨o, h⟩ := h
 refine wv (OV.indexIn hi1 rfl rfl abo o) ?_
 refine wv (OV.loadInE (f := ndC) hi1 rfl ac8 (by decide) (by omega) acd) ?_
 refine WL.make (MV.alloc abw) rfl rfl rfl (fun b_1' => ?_)
 refine WL.nilRow 3 1 z7 ?_
 obtain ⟨o_1', h⟩ := h
 refine WL.storeW (vs := [zI ((ns.getD (i).toNat default).1), zI ((ns.getD (i).toNat default).2.1), st ((ns.getD (i).toNat default).2.2.1), (ns.getD (i).toNat default).2.2.2]) 1 rfl rfl rfl rfl rfl abv rfl (d4 rfl (d4 rfl (d4 rfl (d4 o_1' o6)))) rfl ?_
 refine WL.nil ?_
 refine kg (hK_1' [(0, Value.iface 80 (Value.agg [zI p0, st s0, u1, u2].toArray)), (4, zP b), (7, zP b_1')] _ ?_)
 refine a7 (fun _ hK_2' => ?_)
 refine a7 (fun _ hK_3' => ?_)
 refine a6 ?_
 refine wm ?_
 refine WL.nil ?_
 refine kg (hK_3' [(4, zP b), (7, zP b_1'), (21, Value.iface 80 (Value.agg [zI p0, st s0, u1, u2].toArray))] _ ?_)
 refine b7 ?_
 refine a7 (fun _ hK_4' => ?_)
 refine a6 ?_
 refine wv (OV.assertNo (t2 := 80) (v := Value.agg [zI p0, st s0, u1, u2].toArray) rfl u7 x6 rfl) ?_
 refine wv (OV.extract 1 rfl rfl) ?_
 refine wv (OV.extract 0 rfl rfl) ?_
 refine WL.nil ?_
 refine kg (hK_4' [(4, zP b), (7, zP b_1'), (21, Value.iface 80 (Value.agg [zI p0, st s0, u1, u2].toArray)), (23, zB false), (24, Value.agg [zI 0, st []].toArray)] _ ?_)
 refine d5 rfl ?_
 refine a7 (fun _ hK_5' => ?_)
 refine a6 ?_
 refine wv (OV.assertNo (t2 := 80) (v := Value.agg [zI p0, st s0, u1, u2].toArray) rfl x9 aau rfl) ?_
 refine wv (OV.extract 1 rfl rfl) ?_
 refine wv (OV.extract 0 rfl rfl) ?_
 refine WL.nil ?_
 refine kg (hK_5' [(4, zP b), (7, zP b_1'), (21, Value.iface 80 (Value.agg [zI p0, st s0, u1, u2].toArray)), (50, zB false), (51, Value.agg [zI 0, st []].toArray)] _ ?_)
 refine d5 rfl ?_
 refine a7 (fun _ hK_6' => ?_)
 refine a6 ?_
 refine wv (OV.assertNo (t2 := 80) (v := Value.agg [zI p0, st s0, u1, u2].toArray) rfl aas abk rfl) ?_
 refine wv (OV.extract 1 rfl rfl) ?_
 refine wv (OV.extract 0 rfl rfl) ?_
 refine WL.nil ?_
 refine kg (hK_6' [(4, zP b), (7, zP b_1'), (21, Value.iface 80 (Value.agg [zI p0, st s0, u1, u2].toArray)), (77, zB false), (78, Value.agg [zI 0, st []].toArray)] _ ?_)
 refine d5 rfl ?_
 refine a7 (fun _ hK_7' => ?_)
 refine a6 ?_
 refine wv (OV.assertNo (t2 := 80) (v := Value.agg [zI p0, st s0, u1, u2].toArray) rfl abl ac0 rfl) ?_
 refine wv (OV.extract 1 rfl rfl) ?_
 refine wv (OV.extract 0 rfl rfl) ?_
 refine WL.nil ?_
 refine kg (hK_7' [(4, zP b), (7, zP b_1'), (21, Value.iface 80 (Value.agg [zI p0, st s0, u1, u2].toArray)), (104, zB false), (105, Value.agg [zI 0, Value.nilIface].toArray)] _ ?_)
 refine d5 rfl ?_
 refine a7 (fun _ hK_8' => ?_)
 refine a6 ?_
 refine wv (OV.assertNo (t2 := 80) (v := Value.agg [zI p0, st s0, u1, u2].toArray) rfl w9 abp rfl) ?_
 refine wv (OV.extract 1 rfl rfl) ?_
 refine wv (OV.extract 0 rfl rfl) ?_
 refine WL.nil ?_
 refine kg (hK_8' [(4, zP b), (7, zP b_1'), (21, Value.iface 80 (Value.agg [zI p0, st s0, u1, u2].toArray)), (134, zB false), (135, Value.agg [zI 0, st [], Value.nilIface].toArray)] _ ?_)
 refine d5 rfl ?_
 refine a7 (fun _ hK_9' => ?_)
 refine a6 ?_
 refine wv (OV.assertYes (t' := 80) (v := Value.agg [zI p0, st s0, u1, u2].toArray) rfl x8) ?_
 refine wv (OV.extract 1 rfl rfl) ?_
 refine wv (OV.extract 0 rfl rfl) ?_
 refine WL.nil ?_
 refine kg (hK_9' [(4, zP b), (7, zP b_1'), (21, Value.iface 80 (Value.agg [zI p0, st s0, u1, u2].toArray)), (171, zB true), (172, Value.agg [zI p0, st s0, u1, u2].toArray)] _ ?_)
 refine f7 rfl ?_
 refine a7 (fun _ hK_10' => ?_)
 refine a6 ?_
 refine WL.make (MV.alloc adj) rfl rfl rfl (fun b_2' => ?_)
 obtain ⟨o_2', h⟩ := h
 obtain ⟨o_3', h⟩ := h
 refine WL.storeW (vs := [zI p0, st s0, u1, u2]) 0 rfl rfl rfl rfl rfl adr rfl (d4 rfl (d4 rfl (d4 o_2' (d4 o_3' o6)))) rfl ?_
 refine WL.nil ?_
 refine kg (hK_10' [(4, zP b), (7, zP b_1'), (13, zP b_2')] _ ?_)
 refine a7 (fun _ hK_11' => ?_)
 refine l8 [] f0 (by kernel_rfl) rfl (fun T hT => ?_)
 refine fv (fun _ => OV.fieldAddr0 rfl y7) ?_
 refine fv (fun _ => OV.load rfl (At.own 2 rfl) rfl a8) ?_
 refine fv (fun _ => OV.eql rfl rfl) ?_
 refine fv (fun _ => OV.move rfl) ?_
 refine FL.cut 6 rfl (fun _ => [(4, zP b), (7, zP b_1'), (13, zP b_2'), (182, zB ((decide ((ns.getD (i).toNat default).1 = 7)) && (decide (p0 = (ns.getD (i).toNat default).2.1))))]) ?_ (fun K0_12' hK_12' => ?_)
 rotate_left
 ·refine FL.split (decide ((ns.getD (i).toNat default).1 = 7)) (fun hb => ?_) (fun hb => ?_)
  ·refine FL.set 176 (fun _ => rfl) (congrArg zB hb) ?_
   refine fv (fun _ => OV.fieldAddr0 rfl agw) ?_
   refine fv (fun _ => OV.load rfl (At.own 0 rfl) rfl a8) ?_
   refine fv (fun _ => OV.fieldAddr0 rfl l7) ?_
   refine fv (fun _ => OV.load rfl (At.own 2 rfl) rfl a8) ?_
   refine fv (fun _ => OV.eql rfl rfl) ?_
   refine fv (fun _ => OV.pickT rfl rfl) ?_
   refine FL.set 182 (fun _ => rfl) (bT (v := decide (p0 = (ns.getD (i).toNat default).2.1)) hb) ?_
   exact FL.weak (L' := fun _ => [(4, zP b), (7, zP b_1'), (13, zP b_2'), (182, zB ((decide ((ns.getD (i).toNat default).1 = 7)) && (decide (p0 = (ns.getD (i).toNat default).2.1))))]) (fun _ => ⟨rfl, rfl, rfl, rfl, trivial⟩) (FL.nil hK_12')
  ·refine FL.set 176 (fun _ => rfl) (congrArg zB hb) ?_
   refine FL.skip rfl (fun _ => rfl) rfl rfl ?_
   refine FL.skip rfl (fun _ => rfl) rfl rfl ?_
   refine FL.skip rfl (fun _ => rfl) rfl rfl ?_
   refine FL.skip rfl (fun _ => rfl) rfl rfl ?_
   refine FL.skip rfl (fun _ => rfl) rfl rfl ?_
   refine fv (fun _ => OV.pickF rfl rfl) ?_
   refine FL.set 182 (fun _ => rfl) (bF (v := decide (p0 = (ns.getD (i).toNat default).2.1)) hb) ?_
   exact FL.weak (L' := fun _ => [(4, zP b), (7, zP b_1'), (13, zP b_2'), (182, zB ((decide ((ns.getD (i).toNat default).1 = 7)) && (decide (p0 = (ns.getD (i).toNat default).2.1))))]) (fun _ => ⟨rfl, rfl, rfl, rfl, trivial⟩) (FL.nil hK_12')
 refine fv (fun _ => OV.move rfl) ?_
 refine FL.cut 6 rfl (fun _ => [(4, zP b), (7, zP b_1'), (13, zP b_2'), (189, zB (((decide ((ns.getD (i).toNat default).1 = 7)) && (decide (p0 = (ns.getD (i).toNat default).2.1))) && (decide (s0 = (ns.getD (i).toNat default).2.2.1))))]) ?_ (fun K0_13' hK_13' => ?_)
 rotate_left
 ·refine FL.split ((decide ((ns.getD (i).toNat default).1 = 7)) && (decide (p0 = (ns.getD (i).toNat default).2.1))) (fun hb => ?_) (fun hb => ?_)
  ·refine FL.set 183 (fun _ => rfl) (congrArg zB hb) ?_
   refine fv (fun _ => OV.fieldAddr0 rfl abm) ?_
   refine fv (fun _ => OV.load rfl (At.own 0 rfl) rfl c7) ?_
   refine fv (fun _ => OV.fieldAddr0 rfl aay) ?_
   refine fv (fun _ => OV.load rfl (At.own 2 rfl) rfl c7) ?_
   refine fv (fun _ => OV.eqlS rfl rfl) ?_
   refine fv (fun _ => OV.pickT rfl rfl) ?_
   refine FL.set 189 (fun _ => rfl) (bT (v := decide (s0 = (ns.getD (i).toNat default).2.2.1)) hb) ?_
   exact FL.weak (L' := fun _ => [(4, zP b), (7, zP b_1'), (13, zP b_2'), (189, zB (((decide ((ns.getD (i).toNat default).1 = 7)) && (decide (p0 = (ns.getD (i).toNat default).2.1))) && (decide (s0 = (ns.getD (i).toNat default).2.2.1))))]) (fun _ => ⟨rfl, rfl, rfl, rfl, trivial⟩) (FL.nil hK_13')
  ·refine FL.set 183 (fun _ => rfl) (congrArg zB hb) ?_
   refine FL.skip rfl (fun _ => rfl) rfl rfl ?_
   refine FL.skip rfl (fun _ => rfl) rfl rfl ?_
   refine FL.skip rfl (fun _ => rfl) rfl rfl ?_
   refine FL.skip rfl (fun _ => rfl) rfl rfl ?_
   refine FL.skip rfl (fun _ => rfl) rfl rfl ?_
   refine fv (fun _ => OV.pickF rfl rfl) ?_
   refine FL.set 189 (fun _ => rfl) (bF (v := decide (s0 = (ns.getD (i).toNat default).2.2.1)) hb) ?_
   exact FL.weak (L' := fun _ => [(4, zP b), (7, zP b_1'), (13, zP b_2'), (189, zB (((decide ((ns.getD (i).toNat default).1 = 7)) && (decide (p0 = (ns.getD (i).toNat default).2.1))) && (decide (s0 = (ns.getD (i).toNat default).2.2.1))))]) (fun _ => ⟨rfl, rfl, rfl, rfl, trivial⟩) (FL.nil hK_13')
 refine fv (fun _ => OV.move rfl) ?_
 refine FL.cut 6 rfl (fun _ => [(4, zP b), (7, zP b_1'), (13, zP b_2'), (196, zB ((((decide ((ns.getD (i).toNat default).1 = 7)) && (decide (p0 = (ns.getD (i).toNat default).2.1))) && (decide (s0 = (ns.getD (i).toNat default).2.2.1))) && (decide (p0 = (ns.getD (i).toNat default).2.1))))]) ?_ (fun K0_14' hK_14' => ?_)
 rotate_left
 ·refine FL.split (((decide ((ns.getD (i).toNat default).1 = 7)) && (decide (p0 = (ns.getD (i).toNat default).2.1))) && (decide (s0 = (ns.getD (i).toNat default).2.2.1))) (fun hb => ?_) (fun hb => ?_)
  ·refine FL.set 190 (fun _ => rfl) (congrArg zB hb) ?_
   refine fv (fun _ => OV.loadR rfl (At.own 0 rfl) as9) ?_
   refine FL.call as1 (fun _ => rfl) ((aga p0 s0 u1 u2 (fun d => d = p0) (by unfold ab4; rfl)).weak (fun x h => u6 h)) trivial rfl (fun _ => rfl) rfl ?_
   refine fv (fun _ => OV.fieldAddr0 rfl l7) ?_
   refine fv (fun _ => OV.load rfl (At.own 2 rfl) rfl a8) ?_
   refine fv (fun _ => OV.eql rfl rfl) ?_
   refine fv (fun _ => OV.pickT rfl rfl) ?_
   refine FL.set 196 (fun _ => rfl) (bT (v := decide (p0 = (ns.getD (i).toNat default).2.1)) hb) ?_
   exact FL.weak (L' := fun _ => [(4, zP b), (7, zP b_1'), (13, zP b_2'), (196, zB ((((decide ((ns.getD (i).toNat default).1 = 7)) && (decide (p0 = (ns.getD (i).toNat default).2.1))) && (decide (s0 = (ns.getD (i).toNat default).2.2.1))) && (decide (p0 = (ns.getD (i).toNat default).2.1))))]) (fun _ => ⟨rfl, rfl, rfl, rfl, trivial⟩) (FL.nil hK_14')
  ·refine FL.set 190 (fun _ => rfl) (congrArg zB hb) ?_
   refine FL.skip rfl (fun _ => rfl) rfl rfl ?_
   refine FL.skip rfl (fun _ => rfl) rfl rfl ?_
   refine FL.skip rfl (fun _ => rfl) rfl rfl ?_
   refine FL.skip rfl (fun _ => rfl) rfl rfl ?_
   refine FL.skip rfl (fun _ => rfl) rfl rfl ?_
   refine fv (fun _ => OV.pickF rfl rfl) ?_
   refine FL.set 196 (fun _ => rfl) (bF (v := decide (p0 = (ns.getD (i).toNat default).2.1)) hb) ?_
   exact FL.weak (L' := fun _ => [(4, zP b), (7, zP b_1'), (13, zP b_2'), (196, zB ((((decide ((ns.getD (i).toNat default).1 = 7)) && (decide (p0 = (ns.getD (i).toNat default).2.1))) && (decide (s0 = (ns.getD (i).toNat default).2.2.1))) && (decide (p0 = (ns.getD (i).toNat default).2.1))))]) (fun _ => ⟨rfl, rfl, rfl, rfl, trivial⟩) (FL.nil hK_14')
 refine fv (fun _ => OV.move rfl) ?_
 obtain ⟨o_12', h⟩ := h
 refine FL.cut 9 rfl (fun _ => [(4, zP b), (7, zP b_1'), (13, zP b_2'), (206, zB (((((decide ((ns.getD (i).toNat default).1 = 7)) && (decide (p0 = (ns.getD (i).toNat default).2.1))) && (decide (s0 = (ns.getD (i).toNat default).2.2.1))) && (decide (p0 = (ns.getD (i).toNat default).2.1))) && true))]) ?_ (fun K0_15' hK_15' => ?_)
 rotate_left
 ·refine FL.split ((((decide ((ns.getD (i).toNat default).1 = 7)) && (decide (p0 = (ns.getD (i).toNat default).2.1))) && (decide (s0 = (ns.getD (i).toNat default).2.2.1))) && (decide (p0 = (ns.getD (i).toNat default).2.1))) (fun hb => ?_) (fun hb => ?_)
  ·obtain ⟨o_7', o_8', o_9', o_10', o_11'⟩ := o_12' hb
   refine FL.set 197 (fun _ => rfl) (congrArg zB hb) ?_
   refine fv (fun _ => OV.fieldAddr0 rfl ael) ?_
   refine fv (fun _ => OV.load rfl (At.own 0 rfl) rfl m4) ?_
   refine fv (fun _ => OV.loadR rfl (At.own 3 rfl) aai) ?_
   refine fv (fun _ => OV.fieldAddr0 rfl y9) ?_
   refine fv (fun _ => OV.load rfl (At.own 2 rfl) rfl abx) ?_
   refine fv (fun _ => OV.indexIn (s9.lin o_7' (fun p hp => List.mem_append_left _ hp)) rfl rfl aat o_8') ?_
   refine fv (fun _ => OV.loadInE1 (f := z7) (l := js) (s9.lin o_9' (fun p hp => List.mem_append_left _ hp)) rfl ab6 o_10' rfl a8) ?_
   refine FL.call ab9 (fun _ => rfl) (o_11') (ROk.of (fun _ h => h)) rfl (fun _ => rfl) rfl ?_
   refine fv (fun _ => OV.pickT rfl rfl) ?_
   refine FL.set 206 (fun _ => rfl) (bT (v := true) hb) ?_
   exact FL.weak (L' := fun _ => [(4, zP b), (7, zP b_1'), (13, zP b_2'), (206, zB (((((decide ((ns.getD (i).toNat default).1 = 7)) && (decide (p0 = (ns.getD (i).toNat default).2.1))) && (decide (s0 = (ns.getD (i).toNat default).2.2.1))) && (decide (p0 = (ns.getD (i).toNat default).2.1))) && true))]) (fun _ => ⟨rfl, rfl, rfl, rfl, trivial⟩) (FL.nil hK_15')
  ·refine FL.set 197 (fun _ => rfl) (congrArg zB hb) ?_
   refine FL.skip rfl (fun _ => rfl) rfl rfl ?_
   refine FL.skip rfl (fun _ => rfl) rfl rfl ?_
   refine FL.skip rfl (fun _ => rfl) rfl rfl ?_
   refine FL.skip rfl (fun _ => rfl) rfl rfl ?_
   refine FL.skip rfl (fun _ => rfl) rfl rfl ?_
   refine FL.skip rfl (fun _ => rfl) rfl rfl ?_
   refine FL.skip rfl (fun _ => rfl) rfl rfl ?_
   refine FL.skip rfl (fun _ => rfl) rfl rfl ?_
   refine fv (fun _ => OV.pickF rfl rfl) ?_
   refine FL.set 206 (fun _ => rfl) (bF (v := true) hb) ?_
   exact FL.weak (L' := fun _ => [(4, zP b), (7, zP b_1'), (13, zP b_2'), (206, zB (((((decide ((ns.getD (i).toNat default).1 = 7)) && (decide (p0 = (ns.getD (i).toNat default).2.1))) && (decide (s0 = (ns.getD (i).toNat default).2.2.1))) && (decide (p0 = (ns.getD (i).toNat default).2.1))) && true))]) (fun _ => ⟨rfl, rfl, rfl, rfl, trivial⟩) (FL.nil hK_15')
 refine fv (fun _ => OV.move rfl) ?_
 obtain ⟨o_18', h⟩ := h
 refine FL.cut 9 rfl (fun _ => [(216, zB ((((((decide ((ns.getD (i).toNat default).1 = 7)) && (decide (p0 = (ns.getD (i).toNat default).2.1))) && (decide (s0 = (ns.getD (i).toNat default).2.2.1))) && (decide (p0 = (ns.getD (i).toNat default).2.1))) && true) && true))]) ?_ (fun K0_16' hK_16' => ?_)
 rotate_left
 ·refine FL.split (((((decide ((ns.getD (i).toNat default).1 = 7)) && (decide (p0 = (ns.getD (i).toNat default).2.1))) && (decide (s0 = (ns.getD (i).toNat default).2.2.1))) && (decide (p0 = (ns.getD (i).toNat default).2.1))) && true) (fun hb => ?_) (fun hb => ?_)
  ·obtain ⟨o_13', o_14', o_15', o_16', o_17'⟩ := o_18' hb
   refine FL.set 207 (fun _ => rfl) (congrArg zB hb) ?_
   refine fv (fun _ => OV.fieldAddr0 rfl ad9) ?_
   refine fv (fun _ => OV.load rfl (At.own 0 rfl) rfl m4) ?_
   refine fv (fun _ => OV.loadR rfl (At.own 3 rfl) aai) ?_
   refine fv (fun _ => OV.fieldAddr0 rfl y9) ?_
   refine fv (fun _ => OV.load rfl (At.own 2 rfl) rfl abx) ?_
   refine fv (fun _ => OV.indexIn (s9.lin o_13' (fun p hp => List.mem_append_left _ hp)) rfl rfl aat o_14') ?_
   refine fv (fun _ => OV.loadInE1 (f := z7) (l := js) (s9.lin o_15' (fun p hp => List.mem_append_left _ hp)) rfl ab6 o_16' rfl a8) ?_
   refine FL.call ab9 (fun _ => rfl) (o_17') (ROk.of (fun _ h => h)) rfl (fun _ => rfl) rfl ?_
   refine fv (fun _ => OV.pickT rfl rfl) ?_
   refine FL.set 216 (fun _ => rfl) (bT (v := true) hb) ?_
   exact FL.weak (L' := fun _ => [(216, zB ((((((decide ((ns.getD (i).toNat default).1 = 7)) && (decide (p0 = (ns.getD (i).toNat default).2.1))) && (decide (s0 = (ns.getD (i).toNat default).2.2.1))) && (decide (p0 = (ns.getD (i).toNat default).2.1))) && true) && true))]) (fun _ => ⟨rfl, trivial⟩) (FL.nil hK_16')
  ·refine FL.set 207 (fun _ => rfl) (congrArg zB hb) ?_
   refine FL.skip rfl (fun _ => rfl) rfl rfl ?_
   refine FL.skip rfl (fun _ => rfl) rfl rfl ?_
   refine FL.skip rfl (fun _ => rfl) rfl rfl ?_
   refine FL.skip rfl (fun _ => rfl) rfl rfl ?_
   refine FL.skip rfl (fun _ => rfl) rfl rfl ?_
   refine FL.skip rfl (fun _ => rfl) rfl rfl ?_
   refine FL.skip rfl (fun _ => rfl) rfl rfl ?_
   refine FL.skip rfl (fun _ => rfl) rfl rfl ?_
   refine fv (fun _ => OV.pickF rfl rfl) ?_
   refine FL.set 216 (fun _ => rfl) (bF (v := true) hb) ?_
   exact FL.weak (L' := fun _ => [(216, zB ((((((decide ((ns.getD (i).toNat default).1 = 7)) && (decide (p0 = (ns.getD (i).toNat default).2.1))) && (decide (s0 = (ns.getD (i).toNat default).2.2.1))) && (decide (p0 = (ns.getD (i).toNat default).2.1))) && true) && true))]) (fun _ => ⟨rfl, trivial⟩) (FL.nil hK_16')
 refine fv (fun _ => OV.assign rfl) ?_
 refine FL.weak (L' := fun _ => [(6, zB ((((((decide ((ns.getD (i).toNat default).1 = 7)) && (decide (p0 = (ns.getD (i).toNat default).2.1))) && (decide (s0 = (ns.getD (i).toNat default).2.2.1))) && (decide (p0 = (ns.getD (i).toNat default).2.1))) && true) && true))]) (fun _ => ⟨rfl, trivial⟩) (FL.nil (hT (fun _ => [(6, zB ((((((decide ((ns.getD (i).toNat default).1 = 7)) && (decide (p0 = (ns.getD (i).toNat default).2.1))) && (decide (s0 = (ns.getD (i).toNat default).2.2.1))) && (decide (p0 = (ns.getD (i).toNat default).2.1))) && true) && true))]) (fun _ => ?_)))
 refine kg (hK_11' [(6, zB ((((((decide ((ns.getD (i).toNat default).1 = 7)) && (decide (p0 = (ns.getD (i).toNat default).2.1))) && (decide (s0 = (ns.getD (i).toNat default).2.2.1))) && (decide (p0 = (ns.getD (i).toNat default).2.1))) && true) && true))] _ ?_)
 refine b8 ?_
 exact hE.ret [] rfl rfl (.inl ⟨_, h, rfl⟩) (d7.of1 rfl (RV.tmp rfl))
def ae4 (wn : Value) (B : List (Nat × Obj)) (p0 : Int) (s0 : List UInt8) (us : List Value) (ns : List NdV) (dv : Value) (mn : Int) (i : Int) (js : List Int) (K : Bool → Prop) : Prop :=
 (0 ≤ i ∧ i < (ns.length : Int)) ∧
 (((ns.getD (i).toNat default).2.2.2).oneCell' = true) ∧
 (((((!decide ((ns.getD (i).toNat default).1 = 4)) || (!decide (p0 = (ns.getD (i).toNat default).2.1))) || (!decide (s0 = (ns.getD (i).toNat default).2.2.1))) || (!decide (p0 = (ns.getD (i).toNat default).2.1))) = false → (s9 ((ns.getD (i).toNat default).2.2.2) B js.length (js.flatMap z7))) ∧
 (if (((((!decide ((ns.getD (i).toNat default).1 = 4)) || (!decide (p0 = (ns.getD (i).toNat default).2.1))) || (!decide (s0 = (ns.getD (i).toNat default).2.2.1))) || (!decide (p0 = (ns.getD (i).toNat default).2.1))) || (!decide ((us.length : Int) = (js.length : Int)))) = true then
  K false
 else
  ∃ (Inv : Int → Prop) (mu : Int → Nat),
   Inv 0 ∧ ∀ (k_1' : Int), Inv k_1' →
    (s9 ((ns.getD (i).toNat default).2.2.2) B js.length (js.flatMap z7)) ∧
    (if (decide (k_1' < (js.length : Int))) = true then
     (0 ≤ k_1' ∧ k_1' < (us.length : Int)) ∧
     (s9 ((ns.getD (i).toNat default).2.2.2) B js.length (js.flatMap z7)) ∧
     (0 ≤ k_1' ∧ k_1' < (js.length : Int)) ∧
     (s9 ((ns.getD (i).toNat default).2.2.2) B js.length (js.flatMap z7)) ∧
     ((k_1').toNat < js.length) ∧
     (abg B (us.getD (k_1').toNat default) (Value.agg [wn, dv, zI mn].toArray) (js.getD (k_1').toNat default)) ∧
     (I64 (k_1' + 1)) ∧
     Inv (k_1' + 1) ∧ mu (k_1' + 1) < mu k_1'
    else
     K true))
theorem ans (ua : Value) (wn : Value) (B : List (Nat × Obj)) (p0 : Int) (s0 : List UInt8) (us : List Value) (ns : List NdV) (dv : Value) (mn : Int) (i : Int) (js : List Int) (hRi1 : s9 ua B us.length (us.flatMap acz)) (hRi2 : s9 wn B ns.length (ns.flatMap ndC)) (K : Bool → Prop) (h : ae4 wn B p0 s0 us ns dv mn i js K) :
  d9 Tryd.prog 11 [Value.iface 83 (Value.agg [zI p0, st s0, ua].toArray), Value.agg [wn, dv, zI mn].toArray, zI i] (B ++ []) [] (fun o => (∃ (v : Bool), K v ∧ o = .ret (zB v) []) ∨ (False)) := by
 unfold ae4 at h
 refine c8 (n := 273) (L0 := [(0, Value.iface 83 (Value.agg [zI p0, st s0, ua].toArray)), (1, Value.agg [wn, dv, zI mn].toArray), (2, zI i)]) Tryd.func11 rfl rfl rfl rfl (fun w0 M Q hE => ?_)
 have hi1 : LIn ⟨273, [], w0, M, (B ++ [])⟩ ua us.length (us.flatMap acz) := s9.lin hRi1 (fun p hp => List.mem_append_left _ hp)
 have hi2 : LIn ⟨273, [], w0, M, (B ++ [])⟩ wn ns.length (ns.flatMap ndC) := s9.lin hRi2 (fun p hp => List.mem_append_left _ hp)
 refine a7 (fun _ hK => ?_)
 refine a6 ?_
 refine WL.make (MV.box (cs := [wn, dv, zI mn]) rfl rfl) rfl rfl rfl (fun b => ?_)
 refine wA ?_
 refine WL.nil ?_
 refine kg (hK [(0, Value.iface 83 (Value.agg [zI p0, st s0, ua].toArray)), (2, zI i), (4, zP b)] _ ?_)
 refine a7 (fun _ hK_1' => ?_)
 refine a6 ?_
 refine wv (OV.fieldAddr0 rfl r8) ?_
 refine wv (OV.load rfl (At.own 0 rfl) rfl aap) ?_
 refine wm ?_
 obtain ⟨o, h⟩ := h
 refine wv (OV.indexIn hi2 rfl rfl abo o) ?_
 refine wv (OV.loadInE (f := ndC) hi2 rfl ac8 (by decide) (by omega) acd) ?_
 refine WL.make (MV.alloc abw) rfl rfl rfl (fun b_1' => ?_)
 refine WL.nilRow 3 1 z7 ?_
 obtain ⟨o_1', h⟩ := h
 refine WL.storeW (vs := [zI ((ns.getD (i).toNat default).1), zI ((ns.getD (i).toNat default).2.1), st ((ns.getD (i).toNat default).2.2.1), (ns.getD (i).toNat default).2.2.2]) 1 rfl rfl rfl rfl rfl abv rfl (d4 rfl (d4 rfl (d4 rfl (d4 o_1' o6)))) rfl ?_
 refine WL.nil ?_
 refine kg (hK_1' [(0, Value.iface 83 (Value.agg [zI p0, st s0, ua].toArray)), (4, zP b), (7, zP b_1')] _ ?_)
 refine a7 (fun _ hK_2' => ?_)
 refine a7 (fun _ hK_3' => ?_)
 refine a6 ?_
 refine wm ?_
 refine WL.nil ?_
 refine kg (hK_3' [(4, zP b), (7, zP b_1'), (21, Value.iface 83 (Value.agg [zI p0, st s0, ua].toArray))] _ ?_)
 refine b7 ?_
 refine a7 (fun _ hK_4' => ?_)
 refine a6 ?_
 refine wv (OV.assertNo (t2 := 83) (v := Value.agg [zI p0, st s0, ua].toArray) rfl u7 x6 rfl) ?_
 refine wv (OV.extract 1 rfl rfl) ?_
 refine wv (OV.extract 0 rfl rfl) ?_
 refine WL.nil ?_
 refine kg (hK_4' [(4, zP b), (7, zP b_1'), (21, Value.iface 83 (Value.agg [zI p0, st s0, ua].toArray)), (23, zB false), (24, Value.agg [zI 0, st []].toArray)] _ ?_)
 refine d5 rfl ?_
 refine a7 (fun _ hK_5' => ?_)
 refine a6 ?_
 refine wv (OV.assertNo (t2 := 83) (v := Value.agg [zI p0, st s0, ua].toArray) rfl x9 aau rfl) ?_
 refine wv (OV.extract 1 rfl rfl) ?_
 refine wv (OV.extract 0 rfl rfl) ?_
 refine WL.nil ?_
 refine kg (hK_5' [(4, zP b), (7, zP b_1'), (21, Value.iface 83 (Value.agg [zI p0, st s0, ua].toArray)), (50, zB false), (51, Value.agg [zI 0, st []].toArray)] _ ?_)
 refine d5 rfl ?_
 refine a7 (fun _ hK_6' => ?_)
 refine a6 ?_
 refine wv (OV.assertNo (t2 := 83) (v := Value.agg [zI p0, st s0, ua].toArray) rfl aas abk rfl) ?_
 refine wv (OV.extract 1 rfl rfl) ?_
 refine wv (OV.extract 0 rfl rfl) ?_
 refine WL.nil ?_
 refine kg (hK_6' [(4, zP b), (7, zP b_1'), (21, Value.iface 83 (Value.agg [zI p0, st s0, ua].toArray)), (77, zB false), (78, Value.agg [zI 0, st []].toArray)] _ ?_)
 refine d5 rfl ?_
 refine a7 (fun _ hK_7' => ?_)
 refine a6 ?_
 refine wv (OV.assertNo (t2 := 83) (v := Value.agg [zI p0, st s0, ua].toArray) rfl abl ac0 rfl) ?_
 refine wv (OV.extract 1 rfl rfl) ?_
 refine wv (OV.extract 0 rfl rfl) ?_
 refine WL.nil ?_
 refine kg (hK_7' [(4, zP b), (7, zP b_1'), (21, Value.iface 83 (Value.agg [zI p0, st s0, ua].toArray)), (104, zB false), (105, Value.agg [zI 0, Value.nilIface].toArray)] _ ?_)
 refine d5 rfl ?_
 refine a7 (fun _ hK_8' => ?_)
 refine a6 ?_
 refine wv (OV.assertNo (t2 := 83) (v := Value.agg [zI p0, st s0, ua].toArray) rfl w9 abp rfl) ?_
 refine wv (OV.extract 1 rfl rfl) ?_
 refine wv (OV.extract 0 rfl rfl) ?_
 refine WL.nil ?_
 refine kg (hK_8' [(4, zP b), (7, zP b_1'), (21, Value.iface 83 (Value.agg [zI p0, st s0, ua].toArray)), (134, zB false), (135, Value.agg [zI 0, st [], Value.nilIface].toArray)] _ ?_)
 refine d5 rfl ?_
 refine a7 (fun _ hK_9' => ?_)
 refine a6 ?_
 refine wv (OV.assertNo (t2 := 83) (v := Value.agg [zI p0, st s0, ua].toArray) rfl x8 ab7 rfl) ?_
 refine wv (OV.extract 1 rfl rfl) ?_
 refine wv (OV.extract 0 rfl rfl) ?_
 refine WL.nil ?_
 refine kg (hK_9' [(4, zP b), (7, zP b_1'), (21, Value.iface 83 (Value.agg [zI p0, st s0, ua].toArray)), (171, zB false), (172, Value.agg [zI 0, st [], Value.nilIface, Value.nilIface].toArray)] _ ?_)
 refine d5 rfl ?_
 refine a7 (fun _ hK_10' => ?_)
 refine a6 ?_
 refine wv (OV.assertYes (t' := 83) (v := Value.agg [zI p0, st s0, ua].toArray) rfl aoa) ?_
 refine wv (OV.extract 1 rfl rfl) ?_
 refine wv (OV.extract 0 rfl rfl) ?_
 refine WL.nil ?_
 refine kg (hK_10' [(4, zP b), (7, zP b_1'), (218, zB true), (219, Value.agg [zI p0, st s0, ua].toArray)] _ ?_)
 refine f7 rfl ?_
 refine a7 (fun _ hK_11' => ?_)
 refine a6 ?_
 refine WL.make (MV.alloc ahx) rfl rfl rfl (fun b_2' => ?_)
 refine WL.nilRow 37 1 acz ?_
 have hone := hi1.one
 refine WL.storeW (vs := [zI p0, st s0, ua]) 1 rfl rfl rfl rfl rfl ahw rfl (d4 rfl (d4 rfl (d4 hone o6))) rfl ?_
 refine WL.nil ?_
 refine kg (hK_11' [(4, zP b), (7, zP b_1'), (14, zP b_2')] _ ?_)
 refine a7 (fun _ hK_12' => ?_)
 refine a7 (fun _ hK_13' => ?_)
 refine l8 [] f0 (by kernel_rfl) rfl (fun T hT => ?_)
 refine fv (fun _ => OV.fieldAddr0 rfl y7) ?_
 refine fv (fun _ => OV.load rfl (At.own 3 rfl) rfl a8) ?_
 refine fv (fun _ => OV.neq rfl rfl) ?_
 refine fv (fun _ => OV.move rfl) ?_
 refine FL.cut 6 rfl (fun _ => [(4, zP b), (7, zP b_1'), (14, zP b_2'), (229, zB ((!decide ((ns.getD (i).toNat default).1 = 4)) || (!decide (p0 = (ns.getD (i).toNat default).2.1))))]) ?_ (fun K0_14' hK_14' => ?_)
 rotate_left
 ·refine FL.split (!decide ((ns.getD (i).toNat default).1 = 4)) (fun hb => ?_) (fun hb => ?_)
  ·refine FL.set 223 (fun _ => rfl) (congrArg zB hb) ?_
   refine FL.skip rfl (fun _ => rfl) rfl rfl ?_
   refine FL.skip rfl (fun _ => rfl) rfl rfl ?_
   refine FL.skip rfl (fun _ => rfl) rfl rfl ?_
   refine FL.skip rfl (fun _ => rfl) rfl rfl ?_
   refine FL.skip rfl (fun _ => rfl) rfl rfl ?_
   refine fv (fun _ => OV.pickT rfl rfl) ?_
   refine FL.set 229 (fun _ => rfl) (oT (v := !decide (p0 = (ns.getD (i).toNat default).2.1)) hb) ?_
   exact FL.weak (L' := fun _ => [(4, zP b), (7, zP b_1'), (14, zP b_2'), (229, zB ((!decide ((ns.getD (i).toNat default).1 = 4)) || (!decide (p0 = (ns.getD (i).toNat default).2.1))))]) (fun _ => ⟨rfl, rfl, rfl, rfl, trivial⟩) (FL.nil hK_14')
  ·refine FL.set 223 (fun _ => rfl) (congrArg zB hb) ?_
   refine fv (fun _ => OV.fieldAddr0 rfl ahc) ?_
   refine fv (fun _ => OV.load rfl (At.own 1 rfl) rfl a8) ?_
   refine fv (fun _ => OV.fieldAddr0 rfl l7) ?_
   refine fv (fun _ => OV.load rfl (At.own 3 rfl) rfl a8) ?_
   refine fv (fun _ => OV.neq rfl rfl) ?_
   refine fv (fun _ => OV.pickF rfl rfl) ?_
   refine FL.set 229 (fun _ => rfl) (oF (v := !decide (p0 = (ns.getD (i).toNat default).2.1)) hb) ?_
   exact FL.weak (L' := fun _ => [(4, zP b), (7, zP b_1'), (14, zP b_2'), (229, zB ((!decide ((ns.getD (i).toNat default).1 = 4)) || (!decide (p0 = (ns.getD (i).toNat default).2.1))))]) (fun _ => ⟨rfl, rfl, rfl, rfl, trivial⟩) (FL.nil hK_14')
 refine fv (fun _ => OV.move rfl) ?_
 refine FL.cut 6 rfl (fun _ => [(4, zP b), (7, zP b_1'), (14, zP b_2'), (236, zB (((!decide ((ns.getD (i).toNat default).1 = 4)) || (!decide (p0 = (ns.getD (i).toNat default).2.1))) || (!decide (s0 = (ns.getD (i).toNat default).2.2.1))))]) ?_ (fun K0_15' hK_15' => ?_)
 rotate_left
 ·refine FL.split ((!decide ((ns.getD (i).toNat default).1 = 4)) || (!decide (p0 = (ns.getD (i).toNat default).2.1))) (fun hb => ?_) (fun hb => ?_)
  ·refine FL.set 230 (fun _ => rfl) (congrArg zB hb) ?_
   refine FL.skip rfl (fun _ => rfl) rfl rfl ?_
   refine FL.skip rfl (fun _ => rfl) rfl rfl ?_
   refine FL.skip rfl (fun _ => rfl) rfl rfl ?_
   refine FL.skip rfl (fun _ => rfl) rfl rfl ?_
   refine FL.skip rfl (fun _ => rfl) rfl rfl ?_
   refine fv (fun _ => OV.pickT rfl rfl) ?_
   refine FL.set 236 (fun _ => rfl) (oT (v := !decide (s0 = (ns.getD (i).toNat default).2.2.1)) hb) ?_
   exact FL.weak (L' := fun _ => [(4, zP b), (7, zP b_1'), (14, zP b_2'), (236, zB (((!decide ((ns.getD (i).toNat default).1 = 4)) || (!decide (p0 = (ns.getD (i).toNat default).2.1))) || (!decide (s0 = (ns.getD (i).toNat default).2.2.1))))]) (fun _ => ⟨rfl, rfl, rfl, rfl, trivial⟩) (FL.nil hK_15')
  ·refine FL.set 230 (fun _ => rfl) (congrArg zB hb) ?_
   refine fv (fun _ => OV.fieldAddr0 rfl agz) ?_
   refine fv (fun _ => OV.load rfl (At.own 1 rfl) rfl c7) ?_
   refine fv (fun _ => OV.fieldAddr0 rfl aay) ?_
   refine fv (fun _ => OV.load rfl (At.own 3 rfl) rfl c7) ?_
   refine fv (fun _ => OV.neqS rfl rfl) ?_
   refine fv (fun _ => OV.pickF rfl rfl) ?_
   refine FL.set 236 (fun _ => rfl) (oF (v := !decide (s0 = (ns.getD (i).toNat default).2.2.1)) hb) ?_
   exact FL.weak (L' := fun _ => [(4, zP b), (7, zP b_1'), (14, zP b_2'), (236, zB (((!decide ((ns.getD (i).toNat default).1 = 4)) || (!decide (p0 = (ns.getD (i).toNat default).2.1))) || (!decide (s0 = (ns.getD (i).toNat default).2.2.1))))]) (fun _ => ⟨rfl, rfl, rfl, rfl, trivial⟩) (FL.nil hK_15')
 refine fv (fun _ => OV.move rfl) ?_
 refine FL.cut 6 rfl (fun _ => [(4, zP b), (7, zP b_1'), (14, zP b_2'), (243, zB ((((!decide ((ns.getD (i).toNat default).1 = 4)) || (!decide (p0 = (ns.getD (i).toNat default).2.1))) || (!decide (s0 = (ns.getD (i).toNat default).2.2.1))) || (!decide (p0 = (ns.getD (i).toNat default).2.1))))]) ?_ (fun K0_16' hK_16' => ?_)
 rotate_left
 ·refine FL.split (((!decide ((ns.getD (i).toNat default).1 = 4)) || (!decide (p0 = (ns.getD (i).toNat default).2.1))) || (!decide (s0 = (ns.getD (i).toNat default).2.2.1))) (fun hb => ?_) (fun hb => ?_)
  ·refine FL.set 237 (fun _ => rfl) (congrArg zB hb) ?_
   refine FL.skip rfl (fun _ => rfl) rfl rfl ?_
   refine FL.skip rfl (fun _ => rfl) rfl rfl ?_
   refine FL.skip rfl (fun _ => rfl) rfl rfl ?_
   refine FL.skip rfl (fun _ => rfl) rfl rfl ?_
   refine FL.skip rfl (fun _ => rfl) rfl rfl ?_
   refine fv (fun _ => OV.pickT rfl rfl) ?_
   refine FL.set 243 (fun _ => rfl) (oT (v := !decide (p0 = (ns.getD (i).toNat default).2.1)) hb) ?_
   exact FL.weak (L' := fun _ => [(4, zP b), (7, zP b_1'), (14, zP b_2'), (243, zB ((((!decide ((ns.getD (i).toNat default).1 = 4)) || (!decide (p0 = (ns.getD (i).toNat default).2.1))) || (!decide (s0 = (ns.getD (i).toNat default).2.2.1))) || (!decide (p0 = (ns.getD (i).toNat default).2.1))))]) (fun _ => ⟨rfl, rfl, rfl, rfl, trivial⟩) (FL.nil hK_16')
  ·refine FL.set 237 (fun _ => rfl) (congrArg zB hb) ?_
   refine fv (fun _ => OV.loadR rfl (At.own 1 rfl) amw) ?_
   refine FL.call ato (fun _ => rfl) ((ah5 p0 s0 ua (fun d => d = p0) (by unfold ac3; rfl)).weak (fun x h => u6 h)) trivial rfl (fun _ => rfl) rfl ?_
   refine fv (fun _ => OV.fieldAddr0 rfl l7) ?_
   refine fv (fun _ => OV.load rfl (At.own 3 rfl) rfl a8) ?_
   refine fv (fun _ => OV.neq rfl rfl) ?_
   refine fv (fun _ => OV.pickF rfl rfl) ?_
   refine FL.set 243 (fun _ => rfl) (oF (v := !decide (p0 = (ns.getD (i).toNat default).2.1)) hb) ?_
   exact FL.weak (L' := fun _ => [(4, zP b), (7, zP b_1'), (14, zP b_2'), (243, zB ((((!decide ((ns.getD (i).toNat default).1 = 4)) || (!decide (p0 = (ns.getD (i).toNat default).2.1))) || (!decide (s0 = (ns.getD (i).toNat default).2.2.1))) || (!decide (p0 = (ns.getD (i).toNat default).2.1))))]) (fun _ => ⟨rfl, rfl, rfl, rfl, trivial⟩) (FL.nil hK_16')
 refine fv (fun _ => OV.move rfl) ?_
 obtain ⟨o_6', h⟩ := h
 refine FL.cut 8 rfl (fun _ => [(4, zP b), (7, zP b_1'), (14, zP b_2'), (252, zB (((((!decide ((ns.getD (i).toNat default).1 = 4)) || (!decide (p0 = (ns.getD (i).toNat default).2.1))) || (!decide (s0 = (ns.getD (i).toNat default).2.2.1))) || (!decide (p0 = (ns.getD (i).toNat default).2.1))) || (!decide ((us.length : Int) = (js.length : Int)))))]) ?_ (fun K0_17' hK_17' => ?_)
 rotate_left
 ·refine FL.split ((((!decide ((ns.getD (i).toNat default).1 = 4)) || (!decide (p0 = (ns.getD (i).toNat default).2.1))) || (!decide (s0 = (ns.getD (i).toNat default).2.2.1))) || (!decide (p0 = (ns.getD (i).toNat default).2.1))) (fun hb => ?_) (fun hb => ?_)
  ·refine FL.set 244 (fun _ => rfl) (congrArg zB hb) ?_
   refine FL.skip rfl (fun _ => rfl) rfl rfl ?_
   refine FL.skip rfl (fun _ => rfl) rfl rfl ?_
   refine FL.skip rfl (fun _ => rfl) rfl rfl ?_
   refine FL.skip rfl (fun _ => rfl) rfl rfl ?_
   refine FL.skip rfl (fun _ => rfl) rfl rfl ?_
   refine FL.skip rfl (fun _ => rfl) rfl rfl ?_
   refine FL.skip rfl (fun _ => rfl) rfl rfl ?_
   refine fv (fun _ => OV.pickT rfl rfl) ?_
   refine FL.set 252 (fun _ => rfl) (oT (v := !decide ((us.length : Int) = (js.length : Int))) hb) ?_
   exact FL.weak (L' := fun _ => [(4, zP b), (7, zP b_1'), (14, zP b_2'), (252, zB (((((!decide ((ns.getD (i).toNat default).1 = 4)) || (!decide (p0 = (ns.getD (i).toNat default).2.1))) || (!decide (s0 = (ns.getD (i).toNat default).2.2.1))) || (!decide (p0 = (ns.getD (i).toNat default).2.1))) || (!decide ((us.length : Int) = (js.length : Int)))))]) (fun _ => ⟨rfl, rfl, rfl, rfl, trivial⟩) (FL.nil hK_17')
  ·have o_5' := o_6' hb
   refine FL.set 244 (fun _ => rfl) (congrArg zB hb) ?_
   refine fv (fun _ => OV.fieldAddr0 rfl abt) ?_
   refine fv (fun _ => OV.load rfl (At.own 1 rfl) rfl afa) ?_
   refine fv (fun _ => OV.lenIn hi1 rfl aeo) ?_
   refine fv (fun _ => OV.fieldAddr0 rfl y9) ?_
   refine fv (fun _ => OV.load rfl (At.own 3 rfl) rfl abx) ?_
   refine fv (fun _ => OV.lenIn (s9.lin o_5' (fun p hp => List.mem_append_left _ hp)) rfl aat) ?_
   refine fv (fun _ => OV.neq rfl rfl) ?_
   refine fv (fun _ => OV.pickF rfl rfl) ?_
   refine FL.set 252 (fun _ => rfl) (oF (v := !decide ((us.length : Int) = (js.length : Int))) hb) ?_
   exact FL.weak (L' := fun _ => [(4, zP b), (7, zP b_1'), (14, zP b_2'), (252, zB (((((!decide ((ns.getD (i).toNat default).1 = 4)) || (!decide (p0 = (ns.getD (i).toNat default).2.1))) || (!decide (s0 = (ns.getD (i).toNat default).2.2.1))) || (!decide (p0 = (ns.getD (i).toNat default).2.1))) || (!decide ((us.length : Int) = (js.length : Int)))))]) (fun _ => ⟨rfl, rfl, rfl, rfl, trivial⟩) (FL.nil hK_17')
 refine FL.weak (L' := fun _ => [(4, zP b), (7, zP b_1'), (14, zP b_2'), (252, zB (((((!decide ((ns.getD (i).toNat default).1 = 4)) || (!decide (p0 = (ns.getD (i).toNat default).2.1))) || (!decide (s0 = (ns.getD (i).toNat default).2.2.1))) || (!decide (p0 = (ns.getD (i).toNat default).2.1))) || (!decide ((us.length : Int) = (js.length : Int)))))]) (fun _ => ⟨rfl, rfl, rfl, rfl, trivial⟩) (FL.nil (hT (fun _ => [(4, zP b), (7, zP b_1'), (14, zP b_2'), (252, zB (((((!decide ((ns.getD (i).toNat default).1 = 4)) || (!decide (p0 = (ns.getD (i).toNat default).2.1))) || (!decide (s0 = (ns.getD (i).toNat default).2.2.1))) || (!decide (p0 = (ns.getD (i).toNat default).2.1))) || (!decide ((us.length : Int) = (js.length : Int)))))]) (fun _ => ?_)))
 refine kg (hK_13' [(4, zP b), (7, zP b_1'), (14, zP b_2'), (252, zB (((((!decide ((ns.getD (i).toNat default).1 = 4)) || (!decide (p0 = (ns.getD (i).toNat default).2.1))) || (!decide (s0 = (ns.getD (i).toNat default).2.2.1))) || (!decide (p0 = (ns.getD (i).toNat default).2.1))) || (!decide ((us.length : Int) = (js.length : Int)))))] _ ?_)
 refine b5 (b := ((((!decide ((ns.getD (i).toNat default).1 = 4)) || (!decide (p0 = (ns.getD (i).toNat default).2.1))) || (!decide (s0 = (ns.getD (i).toNat default).2.2.1))) || (!decide (p0 = (ns.getD (i).toNat default).2.1))) || (!decide ((us.length : Int) = (js.length : Int)))) rfl (fun hb => ?_) (fun hb => ?_)
 ·replace h := e8 h hb
  refine a7 (fun _ hK_18' => ?_)
  refine a6 ?_
  refine wA ?_
  refine WL.nil ?_
  refine kg (hK_18' [(6, zB false)] _ ?_)
  refine b8 ?_
  exact hE.ret [] rfl rfl (.inl ⟨_, h, rfl⟩) (d7.of1 rfl (RV.tmp rfl))
 ·replace h := e9 h hb
  refine b6 ?_
  refine kg (hK_12' [(4, zP b), (7, zP b_1'), (14, zP b_2')] _ ?_)
  refine a7 (fun _ hK_19' => ?_)
  refine a7 (fun _ hK_20' => ?_)
  refine a6 ?_
  refine wA ?_
  refine WL.nil ?_
  refine kg (hK_20' [(4, zP b), (7, zP b_1'), (14, zP b_2'), (15, zI 0)] _ ?_)
  refine b7 ?_
  refine WC.pick (H' := [HA.blk b_2' (.cells [zI p0, st s0, ua].toArray 83 (0, 0)), HA.blk b_1' (.cells [zI ((ns.getD (i).toNat default).1), zI ((ns.getD (i).toNat default).2.1), st ((ns.getD (i).toNat default).2.2.1), (ns.getD (i).toNat default).2.2.2].toArray 69 (0, 0)), HA.blk b (.cells [wn, dv, zI mn].toArray 32 (0, 0))]) [1, 3, 4] rfl rfl ?_
  obtain ⟨Inv, mu, h0, hr⟩ := h
  refine o7 (S := Int) (fun σ => Inv σ) (fun σ => mu σ) (fun σ => [(4, zP b), (7, zP b_1'), (14, zP b_2'), (15, zI σ)]) (fun σ => [HA.blk b_2' (.cells [zI p0, st s0, ua].toArray 83 (0, 0)), HA.blk b_1' (.cells [zI ((ns.getD (i).toNat default).1), zI ((ns.getD (i).toNat default).2.1), st ((ns.getD (i).toNat default).2.2.1), (ns.getD (i).toNat default).2.2.2].toArray 69 (0, 0)), HA.blk b (.cells [wn, dv, zI mn].toArray 32 (0, 0))]) 0 h0 ⟨rfl, rfl, rfl, rfl, trivial⟩ rfl ?_
  rintro k_1' hi K0_29' hK_29'
  have h := hr k_1' hi
  show WC _ _ _ _ [(4, zP b), (7, zP b_1'), (14, zP b_2'), (15, zI k_1')] [HA.blk b_2' (.cells [zI p0, st s0, ua].toArray 83 (0, 0)), HA.blk b_1' (.cells [zI ((ns.getD (i).toNat default).1), zI ((ns.getD (i).toNat default).2.1), st ((ns.getD (i).toNat default).2.2.1), (ns.getD (i).toNat default).2.2.2].toArray 69 (0, 0)), HA.blk b (.cells [wn, dv, zI mn].toArray 32 (0, 0))]
  refine a7 (fun _ hK_30' => ?_)
  refine a7 (fun _ hK_31' => ?_)
  refine a6 ?_
  refine wm ?_
  refine wv (OV.fieldAddr0 rfl y9) ?_
  refine wv (OV.load rfl (At.own 1 rfl) rfl abx) ?_
  obtain ⟨o_22', h⟩ := h
  refine wv (OV.lenIn (s9.lin o_22' (fun p hp => List.mem_append_left _ hp)) rfl aat) ?_
  refine wv (OV.lss rfl rfl) ?_
  refine WL.nil ?_
  refine kg (hK_31' [(4, zP b), (7, zP b_1'), (14, zP b_2'), (15, zI k_1'), (257, zB (decide (k_1' < (js.length : Int))))] _ ?_)
  refine b5 (b := decide (k_1' < (js.length : Int))) rfl (fun hb => ?_) (fun hb => ?_)
  ·replace h := e8 h hb
   refine b6 ?_
   refine kg (hK_30' [(4, zP b), (7, zP b_1'), (14, zP b_2'), (15, zI k_1')] _ ?_)
   refine a7 (fun _ hK_32' => ?_)
   refine b7 ?_
   refine a7 (fun _ hK_33' => ?_)
   refine m0 11 [] f0 (by kernel_rfl) rfl (fun T_3' hT_3' => ?_)
   refine fv (fun _ => OV.fieldAddr0 rfl abt) ?_
   refine fv (fun _ => OV.load rfl (At.own 0 rfl) rfl afa) ?_
   refine fv (fun _ => OV.move rfl) ?_
   obtain ⟨o_23', h⟩ := h
   refine fv (fun _ => OV.indexIn hi1 rfl rfl aeo o_23') ?_
   refine fv (fun _ => OV.loadInE1 (f := acz) hi1 rfl af9 (by omega) rfl m4) ?_
   refine fv (fun _ => OV.loadR rfl (At.own 2 rfl) aai) ?_
   refine fv (fun _ => OV.fieldAddr0 rfl y9) ?_
   refine fv (fun _ => OV.load rfl (At.own 1 rfl) rfl abx) ?_
   refine fv (fun _ => OV.move rfl) ?_
   obtain ⟨o_24', h⟩ := h
   obtain ⟨o_25', h⟩ := h
   refine fv (fun _ => OV.indexIn (s9.lin o_24' (fun p hp => List.mem_append_left _ hp)) rfl rfl aat o_25') ?_
   obtain ⟨o_26', h⟩ := h
   obtain ⟨o_27', h⟩ := h
   refine fv (fun _ => OV.loadInE1 (f := z7) (l := js) (s9.lin o_26' (fun p hp => List.mem_append_left _ hp)) rfl ab6 o_27' rfl a8) ?_
   refine FL.weak (L' := fun γ => [(4, zP b), (7, zP b_1'), (14, zP b_2'), (15, zI k_1'), (264, (us.getD (k_1').toNat default)), (265, Value.agg [wn, dv, zI mn].toArray), (270, zI (js.getD (k_1').toNat default))]) (fun γ => ⟨rfl, rfl, rfl, rfl, rfl, rfl, rfl, trivial⟩) (FL.nil (hT_3' (fun γ => [(4, zP b), (7, zP b_1'), (14, zP b_2'), (15, zI k_1'), (264, (us.getD (k_1').toNat default)), (265, Value.agg [wn, dv, zI mn].toArray), (270, zI (js.getD (k_1').toNat default))]) (fun γ => ?_)))
   obtain ⟨o_28', h⟩ := h
   refine WL.call (A := []) ab9 rfl (o_28') rfl (ROk.of (fun _ h => h)) rfl rfl ?_
   refine wv (OV.not rfl) ?_
   refine WL.nil ?_
   refine kg (hK_33' [(4, zP b), (7, zP b_1'), (14, zP b_2'), (15, zI k_1'), (272, zB false)] _ ?_)
   refine d5 rfl ?_
   refine b6 ?_
   refine kg (hK_32' [(4, zP b), (7, zP b_1'), (14, zP b_2'), (15, zI k_1')] _ ?_)
   refine a6 ?_
   refine wm ?_
   obtain ⟨o_29', h⟩ := h
   refine wv (OV.add rfl rfl o_29') ?_
   refine wA ?_
   refine WL.nil ?_
   exact kh (hK_29' (k_1' + 1) h.1 h.2) [0, 1, 2]
  ·replace h := e9 h hb
   refine l4 ?_
   refine KX.go (hK_19' [] _ ?_) trivial
   refine a7 (fun _ hK_34' => ?_)
   refine a6 ?_
   refine wA ?_
   refine WL.nil ?_
   refine kg (hK_34' [(6, zB true)] _ ?_)
   refine b8 ?_
   exact hE.ret [] rfl rfl (.inl ⟨_, h, rfl⟩) (d7.of1 rfl (RV.tmp rfl))
section
variable {wn dv : Value} {mn : Int} {B : List (Nat × Obj)} {ns : List NdV}
theorem akz {x : Out} (h : (∃ d : Bool, d = true ∧ x = .ret (.bool d) []) ∨ False) : x = .ret (.bool true) [] := by
 rcases h with ⟨d, rfl, rfl⟩ | h
 ·rfl
 ·exact h.elim
variable (hN : s9 wn B ns.length (ns.flatMap ndC))
include hN
theorem axv (p : Int) (s : Bs) (i : Int) (h : Nd B ns (.name p s) i) : abg B (.iface 71 (.agg [.int .i64 p, st s].toArray)) (.agg [wn, dv, zI mn].toArray) i := by
 rw [Nd] at h
 obtain ⟨b, e⟩ := ahn h
 refine (am2 wn B p s ns dv mn i [] hN (fun v => v = true) ?_).weak fun x h => akz h
 unfold ae3
 rw [e]
 refine ⟨b, rfl, ?_⟩
 simp
theorem axy (p : Int) (s : Bs) (i : Int) (h : Nd B ns (.text p s) i) : abg B (.iface 73 (.agg [.int .i64 p, st s].toArray)) (.agg [wn, dv, zI mn].toArray) i := by
 rw [Nd] at h
 obtain ⟨b, e⟩ := ahn h
 refine (an3 wn B p s ns dv mn i [] hN (fun v => v = true) ?_).weak fun x h => akz h
 unfold afd
 rw [e]
 refine ⟨b, rfl, ?_⟩
 simp
theorem awn (p : Int) (s : Bs) (i : Int) (h : Nd B ns (.regex p s) i) : abg B (.iface 74 (.agg [.int .i64 p, st s].toArray)) (.agg [wn, dv, zI mn].toArray) i := by
 rw [Nd] at h
 obtain ⟨b, e⟩ := ahn h
 refine (alr wn B p s ns dv mn i [] hN (fun v => v = true) ?_).weak fun x h => akz h
 unfold aej
 rw [e]
 refine ⟨b, rfl, ?_⟩
 simp
theorem awt (p : Int) (u v : Value) (i j : Int) (hu : u.oneCell' = true) (h : 0 ≤ i ∧ ns[i.toNat]? = some (5, p, [], v)) (hv : x7 B v [j]) (ih : abg B u (.agg [wn, dv, zI mn].toArray) j) : abg B (.iface 76 (.agg [.int .i64 p, u].toArray)) (.agg [wn, dv, zI mn].toArray) i := by
 obtain ⟨b, e⟩ := ahn h
 refine (aln wn B p u ns dv mn i [j] hN (fun v => v = true) ?_).weak fun x h => akz h
 unfold aea
 rw [e]
 refine ⟨b, hv.one, hu, fun _ => ⟨hv.lin, ⟨Int.le_refl 0, by show (0 : Int) < 1; decide⟩, hv.lin, by show 0 < 1; decide, ih⟩, ?_⟩
 simp
theorem awo (p : Int) (o : Bs) (u v : Value) (i j : Int) (hu : u.oneCell' = true) (h : 0 ≤ i ∧ ns[i.toNat]? = some (6, p, o, v)) (hv : x7 B v [j]) (ih : abg B u (.agg [wn, dv, zI mn].toArray) j) : abg B (.iface 78 (.agg [.int .i64 p, st o, u].toArray)) (.agg [wn, dv, zI mn].toArray) i := by
 obtain ⟨b, e⟩ := ahn h
 refine (alw wn B p o u ns dv mn i [j] hN (fun v => v = true) ?_).weak fun x h => akz h
 unfold aee
 rw [e]
 refine ⟨b, hv.one, hu, fun _ => ⟨hv.lin, ⟨Int.le_refl 0, by show (0 : Int) < 1; decide⟩, hv.lin, by show 0 < 1; decide, ih⟩, ?_⟩
 simp
theorem av2 (p : Int) (o : Bs) (u1 u2 v : Value) (i j k : Int) (hu : u1.oneCell' = true) (hu2 : u2.oneCell' = true) (h : 0 ≤ i ∧ ns[i.toNat]? = some (7, p, o, v)) (hv : x7 B v [j, k]) (ih : abg B u1 (.agg [wn, dv, zI mn].toArray) j) (ih2 : abg B u2 (.agg [wn, dv, zI mn].toArray) k) :
  abg B (.iface 80 (.agg [.int .i64 p, st o, u1, u2].toArray)) (.agg [wn, dv, zI mn].toArray) i := by
 obtain ⟨b, e⟩ := ahn h
 refine (akj wn B p o u1 u2 ns dv mn i [j, k] hN (fun v => v = true) ?_).weak fun x h => akz h
 unfold adi
 rw [e]
 refine ⟨b, hv.one, hu, hu2, fun _ => ⟨hv.lin, ⟨Int.le_refl 0, by show (0 : Int) < 2; decide⟩, hv.lin, by show 0 < 2; decide, ih⟩, fun _ => ⟨hv.lin, ⟨by decide, by show (1 : Int) < 2; decide⟩, hv.lin, by show 1 < 2; decide, ih2⟩, ?_⟩
 simp
theorem ax3 (p : Int) (w : Bs) (us : List Value) (ua v : Value) (i : Int) (js : List Int) (hI : s9 ua B us.length (us.flatMap acz)) (hlen : us.length = js.length) (h3 : js.length ≤ 1000000) (h : 0 ≤ i ∧ ns[i.toNat]? = some (4, p, w, v)) (hv : x7 B v js)
  (g : ∀ q, q < js.length → abg B (us.getD q default) (.agg [wn, dv, zI mn].toArray) (js.getD q default)) : abg B (.iface 83 (.agg [.int .i64 p, st w, ua].toArray)) (.agg [wn, dv, zI mn].toArray) i := by
 obtain ⟨b, e⟩ := ahn h
 refine (ans ua wn B p w us ns dv mn i js hI hN (fun v => v = true) ?_).weak fun x h => akz h
 unfold ae4
 rw [e]
 refine ⟨b, hv.one, fun _ => hv.lin, ?_⟩
 rw [if_neg (by simp [hlen])]
 refine ⟨fun q => 0 ≤ q ∧ q ≤ js.length, fun q => (js.length - q).toNat, ⟨Int.le_refl 0, by omega⟩, fun q ⟨i0, i1⟩ => ⟨hv.lin, ?_⟩⟩
 by_cases hi : q < (js.length : Int)
 ·rw [if_pos (decide_eq_true hi)]
  refine ⟨⟨i0, by omega⟩, hv.lin, ⟨i0, hi⟩, hv.lin, by omega, g _ (by omega), by unfold I64; omega, ⟨by omega, by omega⟩, by show (js.length - (q + 1)).toNat < (js.length - q).toNat; omega⟩
 ·rw [if_neg (by rw [decide_eq_true_eq]; exact hi)]
end
mutual
theorem adf {wn dv : Value} {mn : Int} {B : List (Nat × Obj)} {ns : List NdV} (hN : s9 wn B ns.length (ns.flatMap ndC)) : ∀ (e : Ex) (v : Value) (i : Int), TV B e v → Nd B ns e i → wX e ≤ 100000 → abg B v (.agg [wn, dv, zI mn].toArray) i
 | .name p s, v, i, ht, h, _ => by rw [TV] at ht; subst ht; exact axv hN p s i h
 | .text p s, v, i, ht, h, _ => by rw [TV] at ht; subst ht; exact axy hN p s i h
 | .regex p s, v, i, ht, h, _ => by rw [TV] at ht; subst ht; exact awn hN p s i h
 | .keyed p a, v, i, ht, h, hw => by
  rw [TV] at ht; rw [Nd] at h; rw [wX] at hw
  obtain ⟨u, t1, rfl⟩ := ht
  obtain ⟨w, j, h1, h2, h3⟩ := h
  exact awt hN p u w i j t1.one h1 h2 (adf hN a u j t1 h3 (by omega))
 | .unary p o a, v, i, ht, h, hw => by
  rw [TV] at ht; rw [Nd] at h; rw [wX] at hw
  obtain ⟨u, t1, rfl⟩ := ht
  obtain ⟨w, j, h1, h2, h3⟩ := h
  exact awo hN p o u w i j t1.one h1 h2 (adf hN a u j t1 h3 (by omega))
 | .binary p o a b, v, i, ht, h, hw => by
  rw [TV] at ht; rw [Nd] at h; rw [wX] at hw
  obtain ⟨u1, u2, t1, t2, rfl⟩ := ht
  obtain ⟨w, j, k, h1, h2, h3, h4⟩ := h
  exact av2 hN p o u1 u2 w i j k t1.one t2.one h1 h2 (adf hN a u1 j t1 h3 (by omega)) (adf hN b u2 k t2 h4 (by omega))
 | .call p w l, v, i, ht, h, hw => by
  rw [TV] at ht; rw [Nd] at h; rw [wX] at hw
  obtain ⟨us, ua, b, cs, t1, t2, t3, rfl⟩ := ht
  obtain ⟨y, js, h1, h2, h3⟩ := h
  have hl1 := t1.len
  have hl2 := h3.len
  exact ax3 hN p w us ua y i js ⟨_, t2.inSl (aag af9 us), fun p hp => by rw [List.mem_singleton.1 hp]; exact t3⟩ (by omega) (by have := akx l; omega) h1 h2 (fun q hq => al3 hN l us js t1 h3 (by omega) q (by omega))
theorem al3 {wn dv : Value} {mn : Int} {B : List (Nat × Obj)} {ns : List NdV} (hN : s9 wn B ns.length (ns.flatMap ndC)) : ∀ (l : ExL) (us : List Value) (js : List Int), TVL B l us → NdL B ns l js → wL l ≤ 100000 → ∀ q, q < l.len → abg B (us.getD q default) (.agg [wn, dv, zI mn].toArray) (js.getD q default)
 | .nil, us, js, ht, h, _, q, hq => absurd hq (Nat.not_lt_zero _)
 | .cons a r, us, js, ht, h, hw, 0, hq => by
  rw [NdL] at h; rw [TVL] at ht; rw [wL] at hw
  obtain ⟨u, vs, t1, t2, rfl⟩ := ht
  obtain ⟨j, ks, h1, h2, rfl⟩ := h
  exact adf hN a u j t1 h1 (by omega)
 | .cons a r, us, js, ht, h, hw, q + 1, hq => by
  rw [NdL] at h; rw [TVL] at ht; rw [wL] at hw
  obtain ⟨u, vs, t1, t2, rfl⟩ := ht
  obtain ⟨j, ks, h1, h2, rfl⟩ := h
  show abg B (vs.getD q default) _ (ks.getD q default)
  exact al3 hN r vs ks t2 h2 (by omega) q (Nat.lt_of_succ_lt_succ hq)
end
end Go.Proofs.YtifajndacnfcbaaDoor
set_option maxRecDepth 100000
namespace Go.Proofs.YtifajndacnfcbaaDoor
open Go Go.RowKit
theorem aoe : k9 Tryd.prog 8 = true := by kernel_rfl
theorem al2 : k9 Tryd.prog 10 = true := by kernel_rfl
theorem alx : f6 Tryd.prog 41 0 = some 0 := by kernel_rfl
theorem alm : f6 Tryd.prog 43 0 = some 0 := by kernel_rfl
def aj6 (text : List UInt8) (l1 : List t8) (a1 : Ex) (K : Bool → Prop) : Prop :=
 (u0 text = .ok (l1, a1)) ∧
 (∀ (qb1 : Nat) (dw1 : Value) (mv1 : Value) (ds1 : List ac7) (R1 : List (Nat × Obj)) (B : List (Nat × Obj)), (ag0 B qb1 dw1 mv1 ds1 R1 l1 a1 ∧ ∀ x ∈ ([] : List (Nat × Obj)), x ∈ B) →
  (u0 text = .ok (l1, a1)) ∧
  (∀ (vwn1 : Value) (vwd1 : Value) (mn1 : Int) (ns1 : List NdV) (rs1 : List RdV) (Rd1 : List (Nat × Obj)) (B_1' : List (Nat × Obj)), ((axz B_1' vwn1 vwd1 mn1 ns1 rs1 l1 a1 ∧ q8 vwd1 43 3 rs1.length (rs1.flatMap rdC) Rd1 ∧ ∀ p ∈ Rd1, p ∈ B_1') ∧ ∀ x ∈ B, x ∈ B_1') →
   (vwn1.oneCell' = true) ∧
   (vwd1.oneCell' = true) ∧
   ((qb1, Obj.cells [dw1, mv1].toArray 39 (0, 0)) ∈ B_1') ∧
   (q8 dw1 41 3 ds1.length (ds1.flatMap aca) R1) ∧
   (q8 vwd1 43 3 rs1.length (rs1.flatMap rdC) Rd1) ∧
   (if (!decide ((ds1.length : Int) = (rs1.length : Int))) = true then
    K false
   else
    ∃ (Inv : Int → Prop) (mu : Int → Nat),
     Inv 0 ∧ ∀ (i_1' : Int), Inv i_1' →
      (q8 vwd1 43 3 rs1.length (rs1.flatMap rdC) Rd1) ∧
      (if (decide (i_1' < (rs1.length : Int))) = true then
       ((qb1, Obj.cells [dw1, mv1].toArray 39 (0, 0)) ∈ B_1') ∧
       (q8 dw1 41 3 ds1.length (ds1.flatMap aca) R1) ∧
       (0 ≤ i_1' ∧ i_1' < (ds1.length : Int)) ∧
       (q8 dw1 41 3 ds1.length (ds1.flatMap aca) R1 ∧ ∀ p ∈ R1, p ∈ B_1') ∧
       ((i_1').toNat < ds1.length) ∧
       (q8 vwd1 43 3 rs1.length (rs1.flatMap rdC) Rd1) ∧
       (0 ≤ i_1' ∧ i_1' < (rs1.length : Int)) ∧
       (q8 vwd1 43 3 rs1.length (rs1.flatMap rdC) Rd1 ∧ ∀ p ∈ Rd1, p ∈ B_1') ∧
       ((i_1').toNat < rs1.length) ∧
       ((!decide ((ds1.getD (i_1').toNat default).1 = (rs1.getD (i_1').toNat default).1)) = false → ((qb1, Obj.cells [dw1, mv1].toArray 39 (0, 0)) ∈ B_1') ∧ (q8 dw1 41 3 ds1.length (ds1.flatMap aca) R1) ∧ (0 ≤ i_1' ∧ i_1' < (ds1.length : Int)) ∧ (q8 dw1 41 3 ds1.length (ds1.flatMap aca) R1 ∧ ∀ p ∈ R1, p ∈ B_1') ∧ ((i_1').toNat < ds1.length) ∧ (q8 vwd1 43 3 rs1.length (rs1.flatMap rdC) Rd1) ∧ (0 ≤ i_1' ∧ i_1' < (rs1.length : Int)) ∧ (q8 vwd1 43 3 rs1.length (rs1.flatMap rdC) Rd1 ∧ ∀ p ∈ Rd1, p ∈ B_1') ∧ ((i_1').toNat < rs1.length)) ∧
       (((!decide ((ds1.getD (i_1').toNat default).1 = (rs1.getD (i_1').toNat default).1)) || (!decide ((ds1.getD (i_1').toNat default).2.1 = (rs1.getD (i_1').toNat default).2.1))) = false → ((qb1, Obj.cells [dw1, mv1].toArray 39 (0, 0)) ∈ B_1') ∧ (q8 dw1 41 3 ds1.length (ds1.flatMap aca) R1) ∧ (0 ≤ i_1' ∧ i_1' < (ds1.length : Int)) ∧ (q8 dw1 41 3 ds1.length (ds1.flatMap aca) R1 ∧ ∀ p ∈ R1, p ∈ B_1') ∧ ((i_1').toNat < ds1.length) ∧ (q8 vwd1 43 3 rs1.length (rs1.flatMap rdC) Rd1) ∧ (0 ≤ i_1' ∧ i_1' < (rs1.length : Int)) ∧ (q8 vwd1 43 3 rs1.length (rs1.flatMap rdC) Rd1 ∧ ∀ p ∈ Rd1, p ∈ B_1') ∧ ((i_1').toNat < rs1.length) ∧ (abg B_1' ((ds1.getD (i_1').toNat default).2.2) (Value.agg [vwn1, vwd1, zI mn1].toArray) ((rs1.getD (i_1').toNat default).2.2))) ∧
       (if (((!decide ((ds1.getD (i_1').toNat default).1 = (rs1.getD (i_1').toNat default).1)) || (!decide ((ds1.getD (i_1').toNat default).2.1 = (rs1.getD (i_1').toNat default).2.1))) || false) = true then
        K false
       else
        (I64 (i_1' + 1)) ∧
        Inv (i_1' + 1) ∧ mu (i_1' + 1) < mu i_1')
      else
       ((qb1, Obj.cells [dw1, mv1].toArray 39 (0, 0)) ∈ B_1') ∧
       (abg B_1' mv1 (Value.agg [vwn1, vwd1, zI mn1].toArray) mn1) ∧
       K true))))
theorem av3 (te : TypeId) (fre : Nat × Nat) (text : List UInt8) (l1 : List t8) (a1 : Ex) (K : Bool → Prop) (h : aj6 text l1 a1 K) :
  d9 Tryd.prog 3 [st text] [(0, .cells [st ([124] : List UInt8), st ([38, 45] : List UInt8), st ([62, 62] : List UInt8), st ([126] : List UInt8), st ([46] : List UInt8)].toArray te fre)] [] (fun o => (∃ (v : Bool), K v ∧ o = .ret (zB v) []) ∨ (False)) := by
 unfold aj6 at h
 refine c8 (n := 110) (L0 := [(0, st text)]) Tryd.func3 rfl rfl rfl rfl (fun w0 M Q hE => ?_)
 refine WC.newPool ?_
 refine a7 (fun _ hK => ?_)
 refine a6 ?_
 refine wA ?_
 refine WL.nil ?_
 refine kg (hK [(0, st text)] _ ?_)
 refine a7 (fun _ hK_1' => ?_)
 refine a7 (fun _ hK_2' => ?_)
 refine a6 ?_
 refine WL.cv ⟨_, _, _, EN.fn aoe rfl, ahy te fre, Rd.old⟩ rfl rfl rfl ?_
 refine wv (OV.not rfl) ?_
 refine WL.nil ?_
 refine kg (hK_2' [(0, st text), (10, zB false)] _ ?_)
 refine d5 rfl ?_
 refine b6 ?_
 refine kg (hK_1' [(0, st text)] _ ?_)
 refine a7 (fun _ hK_3' => ?_)
 refine a6 ?_
 refine wm ?_
 obtain ⟨o, h⟩ := h
 refine WL.callS ajz rfl (al7 te fre text ([] : List (Nat × Obj)) l1 a1 o) rfl ⟨.inr (List.mem_of_getElem? (i := 0) rfl), trivial⟩ rfl rfl (fun r H' hS => ?_) (fun c H' hS => ?_)
 ·obtain ⟨qb1, dw1, mv1, ds1, R1, B, hc, ho⟩ := hS
  cases ho
  replace h := h qb1 dw1 mv1 ds1 R1 B hc
  refine wm ?_
  refine wv (OV.extract 0 rfl rfl) ?_
  refine wv (OV.extract 1 rfl rfl) ?_
  refine WL.make (MV.alloc ad1) rfl rfl rfl (fun b => ?_)
  refine wA ?_
  refine WL.storeW (vs := [zI 0, zI 0, st []]) 0 rfl rfl rfl rfl rfl w8 rfl rfl rfl ?_
  refine WL.nil ?_
  refine kg (hK_3' [(0, st text), (3, zP qb1), (4, zP b)] _ ?_)
  refine a7 (fun _ hK_4' => ?_)
  refine a6 ?_
  refine wm ?_
  obtain ⟨o_1', h⟩ := h
  refine WL.pick (H' := [pool B, HA.blk b (.cells [zI 0, zI 0, st []].toArray 26 (0, 0))]) [1, 0] rfl rfl ?_
  refine WL.callS al2 rfl (ass text B l1 a1 o_1') rfl trivial rfl rfl (fun r H' hS => ?_) (fun c H' hS => ?_)
  ·obtain ⟨vwn1, vwd1, mn1, ns1, rs1, Rd1, B_1', hc, ho⟩ := hS
   cases ho
   replace h := h vwn1 vwd1 mn1 ns1 rs1 Rd1 B_1' hc
   refine wm ?_
   refine wv (OV.extract 0 rfl rfl) ?_
   refine wv (OV.extract 1 rfl rfl) ?_
   refine wv (OV.extract 2 rfl rfl) ?_
   refine WL.make (MV.alloc ahe) rfl rfl rfl (fun b_1' => ?_)
   refine WL.nilRow 69 4 ndC ?_
   refine WL.nilRow 43 3 rdC ?_
   obtain ⟨o_2', h⟩ := h
   obtain ⟨o_3', h⟩ := h
   refine WL.storeW (vs := [vwn1, vwd1, zI mn1]) 2 rfl rfl rfl rfl rfl ads rfl (d4 o_2' (d4 o_3' (d4 rfl o6))) rfl ?_
   refine wA ?_
   refine wA ?_
   refine WL.nil ?_
   refine kg (hK_4' [(3, zP qb1), (4, zP b), (5, zP b_1'), (6, zI 0), (7, zI 0)] _ ?_)
   refine a7 (fun _ hK_5' => ?_)
   refine a7 (fun _ hK_6' => ?_)
   refine a6 ?_
   refine wv (OV.loadR rfl (At.own 4 rfl) x0) ?_
   refine wm ?_
   refine wm ?_
   refine wv (OV.build rfl (cs := [zI 0, zI 0, st []]) rfl) ?_
   refine wv (OV.cast (OV.neqF (rs := [decide ((0 : Int) = 0), decide ((0 : Int) = 0), decide (([] : List UInt8) = [])]) rfl rfl Tryd.underlying26 ad5 agd ⟨rfl, ae5, ⟨_, _, rfl, rfl, aan.int Tryd.underlying24⟩, ⟨rfl, a8, ⟨_, _, rfl, rfl, aan.int Tryd.underlying3⟩, ⟨rfl, c7, ⟨_, _, rfl, rfl, aan.str Tryd.underlying9⟩, trivial⟩⟩⟩) (v' := zB false) rfl) ?_
   refine WL.nil ?_
   refine kg (hK_6' [(3, zP qb1), (5, zP b_1'), (6, zI 0), (26, zB false)] _ ?_)
   refine d5 rfl ?_
   refine b6 ?_
   refine kg (hK_5' [(3, zP qb1), (5, zP b_1'), (6, zI 0)] _ ?_)
   refine a7 (fun _ hK_7' => ?_)
   refine a7 (fun _ hK_8' => ?_)
   refine a6 ?_
   refine wm ?_
   refine wv (OV.neq rfl rfl) ?_
   refine WL.nil ?_
   refine kg (hK_8' [(3, zP qb1), (5, zP b_1'), (28, zB false)] _ ?_)
   refine d5 rfl ?_
   refine b6 ?_
   refine kg (hK_7' [(3, zP qb1), (5, zP b_1')] _ ?_)
   refine a7 (fun _ hK_9' => ?_)
   refine a7 (fun _ hK_10' => ?_)
   refine l8 [] f0 (by kernel_rfl) rfl (fun T hT => ?_)
   refine fv (fun _ => OV.move rfl) ?_
   refine fv (fun _ => OV.eqlPN rfl rfl Tryd.underlying23) ?_
   refine fv (fun _ => OV.move rfl) ?_
   refine fv (fun _ => OV.move rfl) ?_
   refine fv (fun _ => OV.nilCheck rfl) ?_
   refine fv (fun _ => OV.fieldAddr0 rfl aac) ?_
   obtain ⟨o_4', h⟩ := h
   refine fv (fun _ => OV.load rfl (At.pool 3 rfl o_4') rfl ace) ?_
   obtain ⟨o_5', h⟩ := h
   refine fv (fun _ => OV.lenLaid rfl acx o_5') ?_
   refine fv (fun _ => OV.fieldAddr0 rfl y6) ?_
   refine fv (fun _ => OV.load rfl (At.own 2 rfl) rfl acg) ?_
   obtain ⟨o_6', h⟩ := h
   refine fv (fun _ => OV.lenLaid rfl adx o_6') ?_
   refine fv (fun _ => OV.neq rfl rfl) ?_
   refine fv (fun _ => OV.pickF rfl rfl) ?_
   refine FL.weak (L' := fun _ => [(3, zP qb1), (5, zP b_1'), (43, zB (!decide ((ds1.length : Int) = (rs1.length : Int))))]) (fun _ => ⟨rfl, rfl, rfl, trivial⟩) (FL.nil (hT (fun _ => [(3, zP qb1), (5, zP b_1'), (43, zB (!decide ((ds1.length : Int) = (rs1.length : Int))))]) (fun _ => ?_)))
   refine kg (hK_10' [(3, zP qb1), (5, zP b_1'), (43, zB (!decide ((ds1.length : Int) = (rs1.length : Int))))] _ ?_)
   refine b5 (b := !decide ((ds1.length : Int) = (rs1.length : Int))) rfl (fun hb => ?_) (fun hb => ?_)
   ·replace h := e8 h hb
    refine a7 (fun _ hK_11' => ?_)
    refine a6 ?_
    refine wA ?_
    refine WL.nil ?_
    refine kg (hK_11' [(2, zB false)] _ ?_)
    refine b8 ?_
    exact hE.ret [] rfl rfl (.inl ⟨_, h, rfl⟩) (d7.of1 rfl (RV.tmp rfl))
   ·replace h := e9 h hb
    refine b6 ?_
    refine kg (hK_9' [(3, zP qb1), (5, zP b_1')] _ ?_)
    refine a7 (fun _ hK_12' => ?_)
    refine a7 (fun _ hK_13' => ?_)
    refine a6 ?_
    refine wA ?_
    refine WL.nil ?_
    refine kg (hK_13' [(3, zP qb1), (5, zP b_1'), (8, zI 0)] _ ?_)
    refine b7 ?_
    refine WC.pick (H' := [HA.blk b_1' (.cells [vwn1, vwd1, zI mn1].toArray 32 (0, 0)), pool B_1']) [2, 3] rfl rfl ?_
    obtain ⟨Inv, mu, h0, hr⟩ := h
    refine o7 (S := Int) (fun σ => Inv σ) (fun σ => mu σ) (fun σ => [(3, zP qb1), (5, zP b_1'), (8, zI σ)]) (fun σ => [HA.blk b_1' (.cells [vwn1, vwd1, zI mn1].toArray 32 (0, 0)), pool B_1']) 0 h0 ⟨rfl, rfl, rfl, trivial⟩ rfl ?_
    rintro i_1' hi K0_28' hK_28'
    have h := hr i_1' hi
    show WC _ _ _ _ [(3, zP qb1), (5, zP b_1'), (8, zI i_1')] [HA.blk b_1' (.cells [vwn1, vwd1, zI mn1].toArray 32 (0, 0)), pool B_1']
    refine a7 (fun _ hK_29' => ?_)
    refine a7 (fun _ hK_30' => ?_)
    refine a6 ?_
    refine wm ?_
    refine wv (OV.fieldAddr0 rfl y6) ?_
    refine wv (OV.load rfl (At.own 0 rfl) rfl acg) ?_
    obtain ⟨o_70', h⟩ := h
    refine wv (OV.lenLaid rfl adx o_70') ?_
    refine wv (OV.lss rfl rfl) ?_
    refine WL.nil ?_
    refine kg (hK_30' [(3, zP qb1), (5, zP b_1'), (8, zI i_1'), (48, zB (decide (i_1' < (rs1.length : Int))))] _ ?_)
    refine b5 (b := decide (i_1' < (rs1.length : Int))) rfl (fun hb => ?_) (fun hb => ?_)
    ·replace h := e8 h hb
     refine b6 ?_
     refine kg (hK_29' [(3, zP qb1), (5, zP b_1'), (8, zI i_1')] _ ?_)
     refine a7 (fun _ hK_31' => ?_)
     refine b7 ?_
     refine a7 (fun _ hK_32' => ?_)
     refine l8 [] f0 (by kernel_rfl) rfl (fun T_3' hT_3' => ?_)
     refine fv (fun _ => OV.move rfl) ?_
     refine fv (fun _ => OV.nilCheck rfl) ?_
     refine fv (fun _ => OV.fieldAddr0 rfl aac) ?_
     obtain ⟨o_71', h⟩ := h
     refine fv (fun _ => OV.load rfl (At.pool 1 rfl o_71') rfl ace) ?_
     refine fv (fun _ => OV.move rfl) ?_
     obtain ⟨o_72', h⟩ := h
     obtain ⟨o_73', h⟩ := h
     refine fv (fun _ => OV.indexLaid rfl rfl acx o_72' o_73') ?_
     refine fv (fun _ => OV.fieldAddr rfl alx) ?_
     obtain ⟨o_74', h⟩ := h
     obtain ⟨o_75', h⟩ := h
     refine fv (fun _ => OV.loadLaid (f := aca) (l := ds1) (o := 0) 1 rfl rfl aem (by decide) rfl a8 o_74' o_75') ?_
     refine fv (fun _ => OV.fieldAddr0 rfl y6) ?_
     refine fv (fun _ => OV.load rfl (At.own 0 rfl) rfl acg) ?_
     refine fv (fun _ => OV.move rfl) ?_
     obtain ⟨o_76', h⟩ := h
     obtain ⟨o_77', h⟩ := h
     refine fv (fun _ => OV.indexLaid rfl rfl adx o_76' o_77') ?_
     refine fv (fun _ => OV.fieldAddr rfl alm) ?_
     obtain ⟨o_78', h⟩ := h
     obtain ⟨o_79', h⟩ := h
     refine fv (fun _ => OV.loadLaid (f := rdC) (l := rs1) (o := 0) 1 rfl rfl aju (by decide) rfl a8 o_78' o_79') ?_
     refine fv (fun _ => OV.neq rfl rfl) ?_
     refine fv (fun _ => OV.move rfl) ?_
     obtain ⟨o_89', h⟩ := h
     refine FL.cut 16 rfl (fun _ => [(3, zP qb1), (5, zP b_1'), (8, zI i_1'), (82, zB ((!decide ((ds1.getD (i_1').toNat default).1 = (rs1.getD (i_1').toNat default).1)) || (!decide ((ds1.getD (i_1').toNat default).2.1 = (rs1.getD (i_1').toNat default).2.1))))]) ?_ (fun K0_33' hK_33' => ?_)
     rotate_left
     ·refine FL.split (!decide ((ds1.getD (i_1').toNat default).1 = (rs1.getD (i_1').toNat default).1)) (fun hb => ?_) (fun hb => ?_)
      ·refine FL.set 66 (fun _ => rfl) (congrArg zB hb) ?_
       refine FL.skip rfl (fun _ => rfl) rfl rfl ?_
       refine FL.skip rfl (fun _ => rfl) rfl rfl ?_
       refine FL.skip rfl (fun _ => rfl) rfl rfl ?_
       refine FL.skip rfl (fun _ => rfl) rfl rfl ?_
       refine FL.skip rfl (fun _ => rfl) rfl rfl ?_
       refine FL.skip rfl (fun _ => rfl) rfl rfl ?_
       refine FL.skip rfl (fun _ => rfl) rfl rfl ?_
       refine FL.skip rfl (fun _ => rfl) rfl rfl ?_
       refine FL.skip rfl (fun _ => rfl) rfl rfl ?_
       refine FL.skip rfl (fun _ => rfl) rfl rfl ?_
       refine FL.skip rfl (fun _ => rfl) rfl rfl ?_
       refine FL.skip rfl (fun _ => rfl) rfl rfl ?_
       refine FL.skip rfl (fun _ => rfl) rfl rfl ?_
       refine FL.skip rfl (fun _ => rfl) rfl rfl ?_
       refine FL.skip rfl (fun _ => rfl) rfl rfl ?_
       refine fv (fun _ => OV.pickT rfl rfl) ?_
       refine FL.set 82 (fun _ => rfl) (oT (v := !decide ((ds1.getD (i_1').toNat default).2.1 = (rs1.getD (i_1').toNat default).2.1)) hb) ?_
       exact FL.weak (L' := fun _ => [(3, zP qb1), (5, zP b_1'), (8, zI i_1'), (82, zB ((!decide ((ds1.getD (i_1').toNat default).1 = (rs1.getD (i_1').toNat default).1)) || (!decide ((ds1.getD (i_1').toNat default).2.1 = (rs1.getD (i_1').toNat default).2.1))))]) (fun _ => ⟨rfl, rfl, rfl, rfl, trivial⟩) (FL.nil hK_33')
      ·obtain ⟨o_80', o_81', o_82', o_83', o_84', o_85', o_86', o_87', o_88'⟩ := o_89' hb
       refine FL.set 66 (fun _ => rfl) (congrArg zB hb) ?_
       refine fv (fun _ => OV.move rfl) ?_
       refine fv (fun _ => OV.nilCheck rfl) ?_
       refine fv (fun _ => OV.fieldAddr0 rfl aac) ?_
       refine fv (fun _ => OV.load rfl (At.pool 1 rfl o_80') rfl ace) ?_
       refine fv (fun _ => OV.move rfl) ?_
       refine fv (fun _ => OV.indexLaid rfl rfl acx o_81' o_82') ?_
       refine fv (fun _ => OV.fieldAddr rfl ag7) ?_
       refine fv (fun _ => OV.loadLaid (f := aca) (l := ds1) (o := 1) 1 rfl rfl aem (by decide) rfl c7 o_83' o_84') ?_
       refine fv (fun _ => OV.fieldAddr0 rfl y6) ?_
       refine fv (fun _ => OV.load rfl (At.own 0 rfl) rfl acg) ?_
       refine fv (fun _ => OV.move rfl) ?_
       refine fv (fun _ => OV.indexLaid rfl rfl adx o_85' o_86') ?_
       refine fv (fun _ => OV.fieldAddr rfl agk) ?_
       refine fv (fun _ => OV.loadLaid (f := rdC) (l := rs1) (o := 1) 1 rfl rfl aju (by decide) rfl c7 o_87' o_88') ?_
       refine fv (fun _ => OV.neqS rfl rfl) ?_
       refine fv (fun _ => OV.pickF rfl rfl) ?_
       refine FL.set 82 (fun _ => rfl) (oF (v := !decide ((ds1.getD (i_1').toNat default).2.1 = (rs1.getD (i_1').toNat default).2.1)) hb) ?_
       exact FL.weak (L' := fun _ => [(3, zP qb1), (5, zP b_1'), (8, zI i_1'), (82, zB ((!decide ((ds1.getD (i_1').toNat default).1 = (rs1.getD (i_1').toNat default).1)) || (!decide ((ds1.getD (i_1').toNat default).2.1 = (rs1.getD (i_1').toNat default).2.1))))]) (fun _ => ⟨rfl, rfl, rfl, rfl, trivial⟩) (FL.nil hK_33')
     refine fv (fun _ => OV.move rfl) ?_
     obtain ⟨o_100', h⟩ := h
     refine FL.cut 18 rfl (fun _ => [(3, zP qb1), (5, zP b_1'), (8, zI i_1'), (101, zB (((!decide ((ds1.getD (i_1').toNat default).1 = (rs1.getD (i_1').toNat default).1)) || (!decide ((ds1.getD (i_1').toNat default).2.1 = (rs1.getD (i_1').toNat default).2.1))) || false))]) ?_ (fun K0_34' hK_34' => ?_)
     rotate_left
     ·refine FL.split ((!decide ((ds1.getD (i_1').toNat default).1 = (rs1.getD (i_1').toNat default).1)) || (!decide ((ds1.getD (i_1').toNat default).2.1 = (rs1.getD (i_1').toNat default).2.1))) (fun hb => ?_) (fun hb => ?_)
      ·refine FL.set 83 (fun _ => rfl) (congrArg zB hb) ?_
       refine FL.skip rfl (fun _ => rfl) rfl rfl ?_
       refine FL.skip rfl (fun _ => rfl) rfl rfl ?_
       refine FL.skip rfl (fun _ => rfl) rfl rfl ?_
       refine FL.skip rfl (fun _ => rfl) rfl rfl ?_
       refine FL.skip rfl (fun _ => rfl) rfl rfl ?_
       refine FL.skip rfl (fun _ => rfl) rfl rfl ?_
       refine FL.skip rfl (fun _ => rfl) rfl rfl ?_
       refine FL.skip rfl (fun _ => rfl) rfl rfl ?_
       refine FL.skip rfl (fun _ => rfl) rfl rfl ?_
       refine FL.skip rfl (fun _ => rfl) rfl rfl ?_
       refine FL.skip rfl (fun _ => rfl) rfl rfl ?_
       refine FL.skip rfl (fun _ => rfl) rfl rfl ?_
       refine FL.skip rfl (fun _ => rfl) rfl rfl ?_
       refine FL.skip rfl (fun _ => rfl) rfl rfl ?_
       refine FL.skip rfl (fun _ => rfl) rfl rfl ?_
       refine FL.skip rfl (fun _ => rfl) rfl rfl ?_
       refine FL.skip rfl (fun _ => rfl) rfl rfl ?_
       refine fv (fun _ => OV.pickT rfl rfl) ?_
       refine FL.set 101 (fun _ => rfl) (oT (v := false) hb) ?_
       exact FL.weak (L' := fun _ => [(3, zP qb1), (5, zP b_1'), (8, zI i_1'), (101, zB (((!decide ((ds1.getD (i_1').toNat default).1 = (rs1.getD (i_1').toNat default).1)) || (!decide ((ds1.getD (i_1').toNat default).2.1 = (rs1.getD (i_1').toNat default).2.1))) || false))]) (fun _ => ⟨rfl, rfl, rfl, rfl, trivial⟩) (FL.nil hK_34')
      ·obtain ⟨o_90', o_91', o_92', o_93', o_94', o_95', o_96', o_97', o_98', o_99'⟩ := o_100' hb
       refine FL.set 83 (fun _ => rfl) (congrArg zB hb) ?_
       refine fv (fun _ => OV.move rfl) ?_
       refine fv (fun _ => OV.nilCheck rfl) ?_
       refine fv (fun _ => OV.fieldAddr0 rfl aac) ?_
       refine fv (fun _ => OV.load rfl (At.pool 1 rfl o_90') rfl ace) ?_
       refine fv (fun _ => OV.move rfl) ?_
       refine fv (fun _ => OV.indexLaid rfl rfl acx o_91' o_92') ?_
       refine fv (fun _ => OV.fieldAddr rfl agr) ?_
       refine fv (fun _ => OV.loadLaid (f := aca) (l := ds1) (o := 2) 1 rfl rfl aem (by decide) rfl m4 o_93' o_94') ?_
       refine fv (fun _ => OV.loadR rfl (At.own 0 rfl) aai) ?_
       refine fv (fun _ => OV.fieldAddr0 rfl y6) ?_
       refine fv (fun _ => OV.load rfl (At.own 0 rfl) rfl acg) ?_
       refine fv (fun _ => OV.move rfl) ?_
       refine fv (fun _ => OV.indexLaid rfl rfl adx o_95' o_96') ?_
       refine fv (fun _ => OV.fieldAddr rfl agu) ?_
       refine fv (fun _ => OV.loadLaid (f := rdC) (l := rs1) (o := 2) 1 rfl rfl aju (by decide) rfl a8 o_97' o_98') ?_
       refine FL.cv (fun _ => ⟨_, _, _, EN.fn ab9 rfl, o_99', ao2.pool 1 rfl (fun _ h => by cases h)⟩) rfl rfl (fun _ => rfl) rfl ?_
       refine fv (fun _ => OV.not rfl) ?_
       refine fv (fun _ => OV.pickF rfl rfl) ?_
       refine FL.set 101 (fun _ => rfl) (oF (v := false) hb) ?_
       exact FL.weak (L' := fun _ => [(3, zP qb1), (5, zP b_1'), (8, zI i_1'), (101, zB (((!decide ((ds1.getD (i_1').toNat default).1 = (rs1.getD (i_1').toNat default).1)) || (!decide ((ds1.getD (i_1').toNat default).2.1 = (rs1.getD (i_1').toNat default).2.1))) || false))]) (fun _ => ⟨rfl, rfl, rfl, rfl, trivial⟩) (FL.nil hK_34')
     refine FL.weak (L' := fun _ => [(3, zP qb1), (5, zP b_1'), (8, zI i_1'), (101, zB (((!decide ((ds1.getD (i_1').toNat default).1 = (rs1.getD (i_1').toNat default).1)) || (!decide ((ds1.getD (i_1').toNat default).2.1 = (rs1.getD (i_1').toNat default).2.1))) || false))]) (fun _ => ⟨rfl, rfl, rfl, rfl, trivial⟩) (FL.nil (hT_3' (fun _ => [(3, zP qb1), (5, zP b_1'), (8, zI i_1'), (101, zB (((!decide ((ds1.getD (i_1').toNat default).1 = (rs1.getD (i_1').toNat default).1)) || (!decide ((ds1.getD (i_1').toNat default).2.1 = (rs1.getD (i_1').toNat default).2.1))) || false))]) (fun _ => ?_)))
     refine kg (hK_32' [(3, zP qb1), (5, zP b_1'), (8, zI i_1'), (101, zB (((!decide ((ds1.getD (i_1').toNat default).1 = (rs1.getD (i_1').toNat default).1)) || (!decide ((ds1.getD (i_1').toNat default).2.1 = (rs1.getD (i_1').toNat default).2.1))) || false))] _ ?_)
     refine b5 (b := ((!decide ((ds1.getD (i_1').toNat default).1 = (rs1.getD (i_1').toNat default).1)) || (!decide ((ds1.getD (i_1').toNat default).2.1 = (rs1.getD (i_1').toNat default).2.1))) || false) rfl (fun hb => ?_) (fun hb => ?_)
     ·replace h := e8 h hb
      refine a7 (fun _ hK_35' => ?_)
      refine a6 ?_
      refine wA ?_
      refine WL.nil ?_
      refine kg (hK_35' [(2, zB false)] _ ?_)
      refine b8 ?_
      exact hE.ret [] rfl rfl (.inl ⟨_, h, rfl⟩) (d7.of1 rfl (RV.tmp rfl))
     ·replace h := e9 h hb
      refine b6 ?_
      refine kg (hK_31' [(3, zP qb1), (5, zP b_1'), (8, zI i_1')] _ ?_)
      refine a6 ?_
      refine wm ?_
      obtain ⟨o_101', h⟩ := h
      refine wv (OV.add rfl rfl o_101') ?_
      refine wA ?_
      refine WL.nil ?_
      exact kh (hK_28' (i_1' + 1) h.1 h.2) [0, 1]
    ·replace h := e9 h hb
     refine l4 ?_
     refine kg (hK_12' [(3, zP qb1), (5, zP b_1')] _ ?_)
     refine a7 (fun _ hK_36' => ?_)
     refine m0 7 [] f0 (by kernel_rfl) rfl (fun T_4' hT_4' => ?_)
     refine fv (fun _ => OV.move rfl) ?_
     refine fv (fun _ => OV.nilCheck rfl) ?_
     refine fv (fun _ => OV.fieldAddr0 rfl abr) ?_
     obtain ⟨o_102', h⟩ := h
     refine fv (fun _ => OV.load rfl (At.pool 1 rfl o_102') rfl m4) ?_
     refine fv (fun _ => OV.loadR rfl (At.own 0 rfl) aai) ?_
     refine fv (fun _ => OV.fieldAddr0 rfl ag8) ?_
     refine fv (fun _ => OV.load rfl (At.own 0 rfl) rfl a8) ?_
     refine FL.weak (L' := fun γ => [(105, mv1), (106, Value.agg [vwn1, vwd1, zI mn1].toArray), (108, zI mn1)]) (fun γ => ⟨rfl, rfl, rfl, trivial⟩) (FL.nil (hT_4' (fun γ => [(105, mv1), (106, Value.agg [vwn1, vwd1, zI mn1].toArray), (108, zI mn1)]) (fun γ => ?_)))
     obtain ⟨o_103', h⟩ := h
     refine WL.cv ⟨_, _, _, EN.fn ab9 rfl, o_103', ao2.pool 1 rfl (fun _ h => by cases h)⟩ rfl rfl rfl ?_
     refine wA ?_
     refine WL.nil ?_
     refine kg (hK_36' [(2, zB true)] _ ?_)
     refine b8 ?_
     exact hE.ret [] rfl rfl (.inl ⟨_, h, rfl⟩) (d7.of1 rfl (RV.tmp rfl))
  ·obtain ⟨vwn1, vwd1, mn1, ns1, rs1, Rd1, B_1', hc, ho⟩ := hS
   cases ho
 ·obtain ⟨qb1, dw1, mv1, ds1, R1, B, hc, ho⟩ := hS
  cases ho
def aj5 (text : List UInt8) (c1 : Int) (p1 : Int) (K : Bool → Prop) : Prop :=
 (u0 text = .error (c1, p1)) ∧
 (∀ (_B : List (Nat × Obj)), True →
  (u0 text = .error (c1, p1)) ∧
  (∀ (_B_1' : List (Nat × Obj)), True →
   (if (!abi [decide (c1 = c1), decide (p1 = p1), decide (([] : List UInt8) = [])]) = true then
    K false
   else
    (¬ (c1 = 0)) ∧
    K true)))
theorem avg (te : TypeId) (fre : Nat × Nat) (text : List UInt8) (c1 : Int) (p1 : Int) (K : Bool → Prop) (h : aj5 text c1 p1 K) :
  d9 Tryd.prog 3 [st text] [(0, .cells [st ([124] : List UInt8), st ([38, 45] : List UInt8), st ([62, 62] : List UInt8), st ([126] : List UInt8), st ([46] : List UInt8)].toArray te fre)] [] (fun o => (∃ (v : Bool), K v ∧ o = .ret (zB v) []) ∨ (False)) := by
 unfold aj5 at h
 refine c8 (n := 110) (L0 := [(0, st text)]) Tryd.func3 rfl rfl rfl rfl (fun w0 M Q hE => ?_)
 refine WC.newPool ?_
 refine a7 (fun _ hK => ?_)
 refine a6 ?_
 refine wA ?_
 refine WL.nil ?_
 refine kg (hK [(0, st text)] _ ?_)
 refine a7 (fun _ hK_1' => ?_)
 refine a7 (fun _ hK_2' => ?_)
 refine a6 ?_
 refine WL.cv ⟨_, _, _, EN.fn aoe rfl, ahy te fre, Rd.old⟩ rfl rfl rfl ?_
 refine wv (OV.not rfl) ?_
 refine WL.nil ?_
 refine kg (hK_2' [(0, st text), (10, zB false)] _ ?_)
 refine d5 rfl ?_
 refine b6 ?_
 refine kg (hK_1' [(0, st text)] _ ?_)
 refine a7 (fun _ hK_3' => ?_)
 refine a6 ?_
 refine wm ?_
 obtain ⟨o, h⟩ := h
 refine WL.callS ajz rfl (aq2 te fre text ([] : List (Nat × Obj)) c1 p1 o) rfl ⟨.inr (List.mem_of_getElem? (i := 0) rfl), trivial⟩ rfl rfl (fun r H' hS => ?_) (fun c H' hS => ?_)
 ·obtain ⟨B, hc, ho⟩ := hS
  cases ho
  replace h := h B hc
  refine wm ?_
  refine wv (OV.extract 0 rfl rfl) ?_
  refine wv (OV.extract 1 rfl rfl) ?_
  refine WL.make (MV.alloc ad1) rfl rfl rfl (fun b => ?_)
  refine wA ?_
  refine WL.storeW (vs := [zI c1, zI p1, st []]) 0 rfl rfl rfl rfl rfl w8 rfl rfl rfl ?_
  refine WL.nil ?_
  refine kg (hK_3' [(0, st text), (3, Value.pointer none), (4, zP b)] _ ?_)
  refine a7 (fun _ hK_4' => ?_)
  refine a6 ?_
  refine wm ?_
  obtain ⟨o_1', h⟩ := h
  refine WL.pick (H' := [pool B, HA.blk b (.cells [zI c1, zI p1, st []].toArray 26 (0, 0))]) [1, 0] rfl rfl ?_
  refine WL.callS al2 rfl (aqn text B c1 p1 o_1') rfl trivial rfl rfl (fun r H' hS => ?_) (fun c H' hS => ?_)
  ·obtain ⟨B_1', hc, ho⟩ := hS
   cases ho
   replace h := h B_1' hc
   refine wm ?_
   refine wv (OV.extract 0 rfl rfl) ?_
   refine wv (OV.extract 1 rfl rfl) ?_
   refine wv (OV.extract 2 rfl rfl) ?_
   refine WL.make (MV.alloc ahe) rfl rfl rfl (fun b_1' => ?_)
   refine WL.nilRow 69 4 ndC ?_
   refine WL.nilRow 43 3 rdC ?_
   refine WL.storeW (vs := [anx, anx, zI 0]) 2 rfl rfl rfl rfl rfl ads rfl rfl rfl ?_
   refine wA ?_
   refine wA ?_
   refine WL.nil ?_
   refine kg (hK_4' [(3, Value.pointer none), (4, zP b), (5, zP b_1'), (6, zI c1), (7, zI p1)] _ ?_)
   refine a7 (fun _ hK_5' => ?_)
   refine a7 (fun _ hK_6' => ?_)
   refine a6 ?_
   refine wv (OV.loadR rfl (At.own 4 rfl) x0) ?_
   refine wm ?_
   refine wm ?_
   refine wv (OV.build rfl (cs := [zI c1, zI p1, st []]) rfl) ?_
   refine wv (OV.neqF (rs := [decide (c1 = c1), decide (p1 = p1), decide (([] : List UInt8) = [])]) rfl rfl Tryd.underlying26 ad5 agd ⟨rfl, ae5, ⟨_, _, rfl, rfl, aan.int Tryd.underlying24⟩, ⟨rfl, a8, ⟨_, _, rfl, rfl, aan.int Tryd.underlying3⟩, ⟨rfl, c7, ⟨_, _, rfl, rfl, aan.str Tryd.underlying9⟩, trivial⟩⟩⟩) ?_
   refine WL.nil ?_
   refine kg (hK_6' [(3, Value.pointer none), (5, zP b_1'), (6, zI c1), (26, zB (!abi [decide (c1 = c1), decide (p1 = p1), decide (([] : List UInt8) = [])]))] _ ?_)
   refine b5 (b := !abi [decide (c1 = c1), decide (p1 = p1), decide (([] : List UInt8) = [])]) rfl (fun hb => ?_) (fun hb => ?_)
   ·replace h := e8 h hb
    refine a7 (fun _ hK_7' => ?_)
    refine a6 ?_
    refine wA ?_
    refine WL.nil ?_
    refine kg (hK_7' [(2, zB false)] _ ?_)
    refine b8 ?_
    exact hE.ret [] rfl rfl (.inl ⟨_, h, rfl⟩) (d7.of1 rfl (RV.tmp rfl))
   ·replace h := e9 h hb
    refine b6 ?_
    refine kg (hK_5' [(3, Value.pointer none), (5, zP b_1'), (6, zI c1)] _ ?_)
    refine a7 (fun _ hK_8' => ?_)
    refine a7 (fun _ hK_9' => ?_)
    refine a6 ?_
    refine wm ?_
    obtain ⟨o_2', h⟩ := h
    refine wv (OV.cast (OV.neq rfl rfl) (v' := zB true) (by rw [decide_eq_false o_2']; rfl)) ?_
    refine WL.nil ?_
    refine kg (hK_9' [(3, Value.pointer none), (5, zP b_1'), (28, zB true)] _ ?_)
    refine f7 rfl ?_
    refine a7 (fun _ hK_10' => ?_)
    refine a6 ?_
    refine wm ?_
    refine wv (OV.eqlPN rfl rfl Tryd.underlying23) ?_
    refine wA ?_
    refine WL.nil ?_
    refine kg (hK_10' [(2, zB true)] _ ?_)
    refine b8 ?_
    exact hE.ret [] rfl rfl (.inl ⟨_, h, rfl⟩) (d7.of1 rfl (RV.tmp rfl))
  ·obtain ⟨B_1', hc, ho⟩ := hS
   cases ho
 ·obtain ⟨B, hc, ho⟩ := hS
  cases ho
theorem asi (te : TypeId) (fre : Nat × Nat) (t : List UInt8) : d9 Tryd.prog 3 [st t] (ad4 te fre) [] (Ret (.bool true) []) := by
 have out : ∀ {x : Out}, (∃ v : Bool, v = true ∧ x = .ret (.bool v) []) ∨ False → x = .ret (.bool true) [] := by
  rintro x (⟨v, rfl, rfl⟩ | h)
  ·rfl
  ·exact h.elim
 cases hp : u0 t with
 | error x =>
  obtain ⟨c, p⟩ := x
  have hc : ¬ c = 0 := by
   unfold u0 at hp
   split at hp
   ·exact ak6 hp
   ·rename_i h0; cases hp; exact h0
  refine (avg te fre t c p (fun b => b = true) ?_).weak fun x h => out h
  unfold aj5
  refine ⟨hp, fun _ _ => ⟨hp, fun _ _ => ?_⟩⟩
  rw [if_neg (by simp [abi])]
  exact ⟨hc, rfl⟩
 | ok x =>
  obtain ⟨l, a⟩ := x
  have hw := aj1 hp
  obtain ⟨w1, w2, w3⟩ := hw
  have hll := ai3 l
  refine (av3 te fre t l a (fun b => b = true) ?_).weak fun x h => out h
  unfold aj6
  refine ⟨hp, fun b1 dw1 mv1 ds1 R1 B ⟨g1, _⟩ => ⟨hp, fun wn wd mn ns rs Rd B2 ⟨⟨r1, r2, r3⟩, gm⟩ => ?_⟩⟩
  have g2 := g1.more gm
  obtain ⟨t1, t2, t3, t4, t5⟩ := g2
  obtain ⟨⟨Rn, n1, n2⟩, _, q1, q2⟩ := r1
  have hN : s9 wn B2 ns.length (ns.flatMap ndC) := ⟨Rn, n1.inSl (aag ac8 ns), n2⟩
  have k1 : ds1.length = l.length := t1.len
  have k2 : rs.length = l.length := q1.len
  refine ⟨n1.one, r2.one, t5, t3, r2, ?_⟩
  rw [if_neg (by rw [k1, k2, decide_eq_true rfl]; decide)]
  refine ⟨fun i => 0 ≤ i ∧ i ≤ rs.length, fun i => (rs.length - i).toNat, ⟨Int.le_refl 0, by omega⟩, fun i ⟨i0, i1⟩ => ⟨r2, ?_⟩⟩
  by_cases hi : i < (rs.length : Int)
  ·rw [if_pos (decide_eq_true hi)]
   have hil : i.toNat < l.length := by omega
   have a1 := t1.at hil
   have a2 := q1.at hil
   have hwd := avl hil
   have hs := adf (dv := wd) (mn := mn) hN (l.getD i.toNat default).2.2 ((ds1.getD i.toNat default).2.2) ((rs.getD i.toNat default).2.2) a1.2.2 a2.2.2 (by omega)
   have b1 : 0 ≤ i ∧ i < (ds1.length : Int) := ⟨i0, by omega⟩
   have b2 : i.toNat < ds1.length := by omega
   have b3 : i.toNat < rs.length := by omega
   refine ⟨t5, t3, b1, ⟨t3, t4⟩, b2, r2, ⟨i0, hi⟩, ⟨r2, r3⟩, b3, fun _ => ⟨t5, t3, b1, ⟨t3, t4⟩, b2, r2, ⟨i0, hi⟩, ⟨r2, r3⟩, b3⟩, fun _ => ⟨t5, t3, b1, ⟨t3, t4⟩, b2, r2, ⟨i0, hi⟩, ⟨r2, r3⟩, b3, hs⟩, ?_⟩
   rw [if_neg (by rw [a1.1, a2.1, a1.2.1, a2.2.1, decide_eq_true rfl, decide_eq_true rfl]; decide)]
   exact ⟨by unfold I64; omega, ⟨by omega, by omega⟩, by show (rs.length - (i + 1)).toNat < (rs.length - i).toNat; omega⟩
  ·rw [if_neg (by rw [decide_eq_true_eq]; exact hi)]
   exact ⟨t5, adf hN a mv1 mn t2 q2 (by omega), rfl⟩
end Go.Proofs.YtifajndacnfcbaaDoor
namespace Go.Proofs.YtifajndacnfcbaaDoor
open Go Go.ChangeShapes Go.WideShapes Go.ChangeAt Go.RowKit
theorem aiw (os : Os) : laidMet Tryd.prog Rows.syntaxParsesRow.laid ((aiy os).forCall (fun _ _ => 0) ⟨#[], #[.string ByteArray.empty], []⟩).memory :=
 laidMet_of_run' 8 (by kernel_rfl) (by kernel_rfl)
theorem ahj (os : Os) {H : Type} (enc : TypeId × Value → H) : ∃ places, DataW.whole enc Tryd.prog ((aiy os).forCall (fun _ _ => 0) ⟨#[], #[.string ByteArray.empty], []⟩).memory Tryd.f3.params.toList Rows.syntaxParsesSpec.vars false (#[.string ByteArray.empty] : Array Value).toList 8 = some ([.lit (.string [])], [], places) :=
 ⟨[], by kernel_rfl⟩
set_option maxRecDepth 100000 in
theorem agj (os : Os) (started : os.Started) (H : Type) (enc : TypeId × Value → H) (F : Stop.Interp) :
  ReturnsInHanded {} Tryd.checked os 3 .any ((OpenSpec.ofChange Rows.syntaxParsesSpec).preRow enc Tryd.prog Tryd.f3 Rows.syntaxParsesRow.domain false Rows.syntaxParsesRow.laid) (((OpenSpec.ofChange Rows.syntaxParsesSpec).at F).post enc Tryd.prog Tryd.f3 false true false false) := by
 obtain ⟨places, hx⟩ := ahj os enc
 refine returnsInHanded_of_row (C := Tryd.checked) (s := OpenSpec.ofChange Rows.syntaxParsesSpec) auk started (by kernel_rfl) Tryd.func3
  (witness_row_atRef (enc := enc) (C := Tryd.checked) false (aiy os) #[.string ByteArray.empty] rfl (by kernel_rfl) (by kernel_rfl) (by kernel_rfl)
   (OpenSpec.preRow_of_cond 8 hx (by kernel_rfl) (fun k hk => by cases hk) (by kernel_rfl) (aiw os))) ?_
 intro W base args ds gs before hval0 hW _ hcond hwt0 hL _ _
 have hval : ∀ (j : Nat) t v, Tryd.f3.params[j]? = some t → args[j]? = some v → Value.okWide Tryd.prog W .any base t v := hval0
 have hW' : DataW.Whole enc Tryd.prog Tryd.f3.params.toList Rows.syntaxParsesSpec.vars false W args.toList ds gs before := hW
 obtain ⟨p, q, hA0, hV, rfl, _, _⟩ := hW'
 have hA : DataW.TrodAll enc Tryd.prog W 0 (fun _ => true) true Tryd.f3.params.toList args.toList ds p := hA0
 have hwt : (DataW.weightsEach Tryd.prog (Tryd.f3.params.toList ++ Rows.syntaxParsesSpec.plain.varTypes Tryd.prog) (ds ++ gs)).all (· ≤ reachBytes) = true := hwt0
 rw [Tryd.params3] at hA hval hwt
 obtain ⟨v0, d0, rfl, rfl, h0⟩ := trodAll_one hA
 obtain ⟨rfl, rfl⟩ := trodVars_none hV
 obtain ⟨a0, rfl, e0, _, _⟩ := ChangeMaps.open_string Tryd.underlying9 (hval 0 _ v0 rfl rfl) h0
 have y0 : a0.data.toList.length ≤ reachBytes := sized_string hwt (j := 0) (t := 9) rfl (by rw [e0]; rfl)
 have r0 : a0.data.toList.length ≤ 140737488351232 := y0
 refine (aqz hL (fun te fre => asi te fre a0.data.toList)).mono fun e W' ⟨he, hb⟩ => ?_
 subst he
 exact ⟨_, rfl, aub av1 rfl Tryd.underlying4 (by kernel_rfl) rfl hW rfl hb⟩
theorem ah0 : Rows.SyntaxParsesSaid :=
 OpenClaim.holds_of_cond 3 Tryd.f3 rfl rfl rfl rfl rfl rfl rfl ⟨rfl, rfl, rfl, rfl, rfl⟩ rfl rfl rfl rfl rfl (by kernel_rfl) Tryd.func3 (by kernel_rfl)
  (of_decide_eq_true (by kernel_rfl)) (by unfold Func.isWrapper; rw [if_neg (of_decide_eq_false (by kernel_rfl))]; exact ⟨rfl, rfl⟩)
  (fun os started H enc _ F => by rw [OpenClaim.pre_eq_preRow]; exact agj os started H enc F)
theorem syntaxParses_card_holds : Rows.SyntaxParsesCardSaid :=
 Claim7.holds_tied_plain_at .later [] _ _ _ _ ah0 (fun _ h => by cases h) (by kernel_rfl) (fun _ h => by cases h) syntaxParses_row_tie rfl ⟨rfl, rfl⟩ (by kernel_rfl) rfl
  (fun f fn hf hfn => by
   obtain rfl : f = 3 := Option.some.inj ((show Tryd.prog.funcNamed "loupe/loupelaw13.SyntaxParses" = some 3 by kernel_rfl).symm.trans hf) |>.symm
   obtain rfl : fn = Tryd.f3 := (Option.some.inj (Tryd.func3.symm.trans hfn)).symm
   refine ⟨by kernel_rfl, fun j t ht => ?_⟩
   rw [Tryd.params3] at ht
   have h3 : t = 9 := by simpa using Array.mem_of_getElem? ht
   rcases h3 with rfl
   ·exact (show Tryd.prog.wantsStandIn 9 = false by kernel_rfl))
  (by kernel_rfl)
end Go.Proofs.YtifajndacnfcbaaDoor
