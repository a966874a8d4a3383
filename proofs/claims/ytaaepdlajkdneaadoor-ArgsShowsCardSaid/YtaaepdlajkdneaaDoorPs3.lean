/-
  Merged: ArP, ArQ, ArO.
-/
import Derived.Test.YtaaepdlajkdneaaDoorPs2
set_option maxRecDepth 100000
namespace Go.Proofs.YtaaepdlajkdneaaDoor
open Go Go.RowKit
theorem ahj : Program.concrete Tryd.prog 28 = true := by kernel_rfl
theorem l9 : k8 Tryd.prog 47 0 = some 0 := by kernel_rfl
theorem aap : k8 Tryd.prog 25 4 = some 4 := by kernel_rfl
theorem r3 : t7 Tryd.prog 9 1 = true := by kernel_rfl
theorem aai : k8 Tryd.prog 25 5 = some 5 := by kernel_rfl
theorem aam : k8 Tryd.prog 25 6 = some 6 := by kernel_rfl
theorem abr : p9 Tryd.prog 33 = true := by kernel_rfl
theorem m8 : t7 Tryd.prog 3 1 = true := by kernel_rfl
theorem aao : k8 Tryd.prog 25 7 = some 7 := by kernel_rfl
theorem k9 : k8 Tryd.prog 47 3 = some 15 := by kernel_rfl
theorem g8 : y6 Tryd.prog 3 = true := by kernel_rfl
theorem p3 : k8 Tryd.prog 47 2 = some 14 := by kernel_rfl
theorem s7 : y6 Tryd.prog 22 = true := by kernel_rfl
theorem f0 : slB Tryd.prog 22 9 1 = true := by kernel_rfl
theorem aff : p9 Tryd.prog 31 = true := by kernel_rfl
theorem u4 : p9 Tryd.prog 23 = true := by kernel_rfl
theorem u6 : k8 Tryd.prog 47 1 = some 11 := by kernel_rfl
theorem aan : k8 Tryd.prog 45 2 = some 2 := by kernel_rfl
theorem abz : k8 Tryd.prog 47 4 = some 16 := by kernel_rfl
theorem aeq : y6 Tryd.prog 43 = true := by kernel_rfl
theorem abv : CntT Tryd.prog 43 5 3 := ⟨Tryd.underlying43, Tryd.underlying5, Tryd.underlying3, by kernel_rfl⟩
theorem r5 : Tryd.prog.follows .mixedOrders = true := by kernel_rfl
theorem ai5 : p9 Tryd.prog 32 = true := by kernel_rfl
theorem u7 : k8 Tryd.prog 47 5 = some 17 := by kernel_rfl
theorem w3 : k8 Tryd.prog 45 1 = some 1 := by kernel_rfl
theorem aca : k8 Tryd.prog 25 1 = some 1 := by kernel_rfl
theorem ab5 : k8 Tryd.prog 25 2 = some 2 := by kernel_rfl
theorem ab9 : k8 Tryd.prog 25 3 = some 3 := by kernel_rfl
theorem abi : k8 Tryd.prog 25 10 = some 10 := by kernel_rfl
theorem ab3 : k8 Tryd.prog 25 8 = some 8 := by kernel_rfl
theorem acc : k8 Tryd.prog 25 9 = some 9 := by kernel_rfl
theorem ae6 : p9 Tryd.prog 21 = true := by kernel_rfl
theorem x6 : k8 Tryd.prog 25 0 = some 0 := by kernel_rfl
theorem ajl : p9 Tryd.prog 24 = true := by kernel_rfl
theorem ai4 : p9 Tryd.prog 25 = true := by kernel_rfl
structure PS where
 name : Bs
 lens : Bs
 view : Bs
 src : Bs
 out : Bs
 budget : Int
 count : Int
 chunk : Int
 at0 : Int
 del : Int
 text : Bs
 sname : Bs
 sops : Bs
 sopts : Bs
 at1 : Int
 got : Int
def psC (wa : Value) (mb : Nat) (q : PS) : List Value := [st q.name, st q.lens, st q.view, st q.src, st q.out, .int .i64 q.budget, .int .i64 q.count, .int .i64 q.chunk, .int .i64 q.at0, .int .i64 q.del, st q.text, st q.sname, st q.sops, st q.sopts, wa, .int .i64 q.at1, .map (some mb), .int .i64 q.got]
def agu (_ : Value) (at0 : Int) (why : List UInt8) (_ : Prop) (KP : Value → Prop) : Prop :=
 KP (Value.iface 28 (Value.agg [zI 140, zI at0, st why].toArray))
theorem akt  (p : Value) (at0 : Int) (why : List UInt8) (K : Prop) (KP : Value → Prop) (h : agu p at0 why K KP) :
  j8 Tryd.prog 23 [p, zI at0, st why] [] [] (fun o => (K ∧ o = .ret (Value.tuple #[]) []) ∨ (∃ (pv : Value), KP pv ∧ o = .pan [{ v := pv, recovered := false }] [])) := by
 unfold agu at h
 refine g9 (n := 10) (L0 := [(0, p), (1, zI at0), (2, st why)]) Tryd.func23 rfl rfl rfl rfl (fun w0 M Q hE => ?_)
 refine a6 ?_
 refine wm ?_
 refine wm ?_
 refine wv (OV.build rfl (cs := [zI 140, zI at0, st why]) rfl) ?_
 refine wv (OV.iface rfl ahj) ?_
 refine WL.panic rfl rfl ?_
 exact hE.pan [] rfl rfl (.inr ⟨_, h, rfl⟩)
abbrev x2 (e : Int) (why : Bs) : Value := .iface 28 (.agg [zI 140, zI e, st why].toArray)
theorem s5 (p : Value) (e : Int) (why : Bs) : j8 Tryd.prog 23 [p, .int .i64 e, st why] [] [] (fun o => o = .pan [{ v := x2 e why, recovered := false }] []) := by
 refine (akt p e why False (fun v => v = x2 e why) rfl).weak ?_
 rintro o (⟨h, _⟩ | ⟨v, rfl, rfl⟩)
 ·exact h.elim
 ·rfl
def ixB (s : Bs) (c : Int) : Int := Lib.indexByte s c.toNat.toUInt8
theorem aee (s : Bs) (c : Int) (_h : 0 ≤ c ∧ c < 256) : j8 Tryd.prog 31 [st s, .int .u8 c] [] [] (Ret (.int .i64 (ixB s c)) []) :=
 j8.ofPure fun w => (Tryd.strings_IndexByte ⟨s.toArray⟩ c w).mono fun _ _ ⟨h1, h2⟩ => by subst h2; exact ⟨h1, Below.refl _ _⟩
def ahk (q : PS) (_ : List (List UInt8)) (sl : List Int) (letter : Int) (value : List UInt8) (K : Bool → PS → (List Int) → Prop) : Prop :=
 (if (decide (letter = 111)) = true then
  K (!decide (value = [])) ({ q with out := value }) sl
 else
  (if (decide (letter = 110)) = true then
   (value.length ≤ 140737488355328) ∧
   K (((l8 value) && (decide (0 ≤ j4 value))) && (decide (j4 value ≤ 100))) ({ q with count := j4 value }) sl
  else
   (if (decide (letter = 99)) = true then
    (value.length ≤ 140737488355328) ∧
    K (((l8 value) && (decide (1 ≤ j4 value))) && (decide (j4 value ≤ 16384))) ({ q with chunk := j4 value }) sl
   else
    (value.length ≤ 140737488355328) ∧
    K (((l8 value) && (decide (1 ≤ j4 value))) && (decide (j4 value ≤ 4096))) ({ q with budget := j4 value }) sl)))
theorem amw (pb : Nat) (wa : Value) (mb : Nat) (q : PS) (av : List (List UInt8)) (sl : List Int) (letter : Int) (value : List UInt8) (Ri1 : List (Nat × Obj)) (hRi1 : w8 wa Ri1 av.length (av.flatMap j3)) (K : Bool → PS → (List Int) → Prop) (h : ahk q av sl letter value K) :
  j8 Tryd.prog 32 [zP pb, zU letter, st value] (Ri1 ++ []) [HA.blk pb (.cells (psC wa mb q).toArray 47 (0, 0)), cnt Tryd.prog 5 3 mb sl] (fun o => (∃ (v : Bool) (d : PS) (D : List Int), K v d D ∧ o = .ret (zB v) [HA.blk pb (.cells (psC wa mb d).toArray 47 (0, 0)), cnt Tryd.prog 5 3 mb D]) ∨ (False)) := by
 unfold ahk at h
 refine g9 (n := 57) (L0 := [(0, zP pb), (1, zU letter), (2, st value)]) Tryd.func32 rfl rfl rfl rfl (fun w0 M Q hE => ?_)
 have hi1 : LIn ⟨57, [], w0, M, (Ri1 ++ [])⟩ wa av.length (av.flatMap j3) := LIn.mk hRi1 (fun p hp => by simp [hp])
 refine a7 (fun _ hK => ?_)
 refine a6 ?_
 refine wA ?_
 refine WL.nil ?_
 refine kg (hK [(0, zP pb), (1, zU letter), (2, st value)] _ ?_)
 refine a7 (fun _ hK_1' => ?_)
 refine a7 (fun _ hK_2' => ?_)
 refine a6 ?_
 refine wm ?_
 refine wv (OV.eql rfl rfl) ?_
 refine WL.nil ?_
 refine kg (hK_2' [(0, zP pb), (1, zU letter), (2, st value), (13, zB (decide (letter = 111)))] _ ?_)
 refine b9 (b := decide (letter = 111)) rfl (fun hb => ?_) (fun hb => ?_)
 ·replace h := j6 h hb
  refine a7 (fun _ hK_3' => ?_)
  refine a6 ?_
  refine wm ?_
  refine wm ?_
  refine wv (OV.nilCheck rfl) ?_
  refine wv (OV.fieldAddr0 rfl l9) ?_
  refine wv (OV.fieldAddr0 rfl aap) ?_
  refine WL.store (vs := [st value]) (cs' := psC wa mb ({ q with out := value })) 0 rfl rfl rfl rfl r3 (Nat.le_of_ble_eq_true rfl) rfl rfl rfl ?_
  refine WL.nil ?_
  refine kg (hK_3' [(2, st value)] _ ?_)
  refine a7 (fun _ hK_4' => ?_)
  refine a6 ?_
  refine wm ?_
  refine wv (OV.neqS rfl rfl) ?_
  refine wA ?_
  refine WL.nil ?_
  refine kg (hK_4' [(6, zB (!decide (value = [])))] _ ?_)
  refine g7 ?_
  exact hE.ret [0, 1] rfl rfl (.inl ⟨_, _, _, h, rfl⟩) (l7.of1 rfl (RV.tmp rfl))
 ·replace h := j5 h hb
  refine b8 ?_
  refine kg (hK_1' [(0, zP pb), (1, zU letter), (2, st value)] _ ?_)
  refine a7 (fun _ hK_5' => ?_)
  refine a6 ?_
  refine wm ?_
  refine wv (OV.nilCheck rfl) ?_
  refine wv (OV.fieldAddr0 rfl l9) ?_
  refine wv (OV.fieldAddr0 rfl aai) ?_
  refine wA ?_
  refine wA ?_
  refine wA ?_
  refine WL.nil ?_
  refine kg (hK_5' [(0, zP pb), (1, zU letter), (2, st value), (7, Value.pointer (some ⟨pb, 5, none⟩)), (8, zI 1), (9, zI 4096)] _ ?_)
  refine a7 (fun _ hK_6' => ?_)
  refine a7 (fun _ hK_7' => ?_)
  refine a6 ?_
  refine wm ?_
  refine WL.nil ?_
  refine kg (hK_7' [(0, zP pb), (2, st value), (7, Value.pointer (some ⟨pb, 5, none⟩)), (8, zI 1), (9, zI 4096), (25, zU letter)] _ ?_)
  refine f9 ?_
  refine a7 (fun _ hK_8' => ?_)
  refine a6 ?_
  refine wv (OV.eql rfl rfl) ?_
  refine wA ?_
  refine WL.nil ?_
  refine kg (hK_8' [(0, zP pb), (2, st value), (7, Value.pointer (some ⟨pb, 5, none⟩)), (8, zI 1), (9, zI 4096), (25, zU letter), (26, zB (decide (letter = 110)))] _ ?_)
  refine b9 (b := decide (letter = 110)) rfl (fun hb => ?_) (fun hb => ?_)
  ·replace h := j6 h hb
   refine a6 ?_
   refine wm ?_
   refine wv (OV.nilCheck rfl) ?_
   refine wv (OV.fieldAddr0 rfl l9) ?_
   refine wv (OV.fieldAddr0 rfl aam) ?_
   refine wA ?_
   refine wA ?_
   refine wA ?_
   refine WL.nil ?_
   refine kg (hK_6' [(2, st value), (7, Value.pointer (some ⟨pb, 6, none⟩)), (8, zI 0), (9, zI 100)] _ ?_)
   refine a7 (fun _ hK_9' => ?_)
   refine a6 ?_
   refine wm ?_
   obtain ⟨o, h⟩ := h
   refine WL.call (A := []) abr rfl (aae value o) rfl trivial rfl rfl ?_
   refine wm ?_
   refine wv (OV.extract 0 rfl rfl) ?_
   refine wv (OV.extract 1 rfl rfl) ?_
   refine wA ?_
   refine wA ?_
   refine WL.nil ?_
   refine kg (hK_9' [(7, Value.pointer (some ⟨pb, 6, none⟩)), (8, zI 0), (9, zI 100), (10, zI (j4 value)), (11, zB (l8 value))] _ ?_)
   refine a7 (fun _ hK_10' => ?_)
   refine a6 ?_
   refine wm ?_
   refine wm ?_
   refine wv (OV.nilCheck rfl) ?_
   refine WL.store (vs := [zI (j4 value)]) (cs' := psC wa mb ({ q with count := j4 value })) 0 rfl rfl rfl rfl m8 (Nat.le_of_ble_eq_true rfl) rfl rfl rfl ?_
   refine WL.nil ?_
   refine kg (hK_10' [(8, zI 0), (9, zI 100), (10, zI (j4 value)), (11, zB (l8 value))] _ ?_)
   refine a7 (fun _ hK_11' => ?_)
   refine a6 ?_
   refine wm ?_
   refine wm ?_
   refine WL.cut 4 [(9, zI 100), (10, zI (j4 value)), (51, zB ((l8 value) && (decide (0 ≤ j4 value))))] ?_ (fun K0_12' hK_12' => ?_)
   rotate_left
   ·refine WL.split (l8 value) (fun hb => ?_) (fun hb => ?_)
    ·refine WL.set 47 rfl (congrArg zB hb) ?_
     refine wm ?_
     refine wm ?_
     refine wv (OV.geq rfl rfl) ?_
     refine wv (OV.pickT rfl rfl) ?_
     refine WL.set 51 rfl (bT (v := decide (0 ≤ j4 value)) hb) ?_
     exact WL.end_ (kg hK_12')
    ·refine WL.set 47 rfl (congrArg zB hb) ?_
     refine wk ?_
     refine wk ?_
     refine wk ?_
     refine wv (OV.pickF rfl rfl) ?_
     refine WL.set 51 rfl (bF (v := decide (0 ≤ j4 value)) hb) ?_
     exact WL.end_ (kg hK_12')
   refine wm ?_
   refine WL.cut 4 [(56, zB (((l8 value) && (decide (0 ≤ j4 value))) && (decide (j4 value ≤ 100))))] ?_ (fun K0_13' hK_13' => ?_)
   rotate_left
   ·refine WL.split ((l8 value) && (decide (0 ≤ j4 value))) (fun hb => ?_) (fun hb => ?_)
    ·refine WL.set 52 rfl (congrArg zB hb) ?_
     refine wm ?_
     refine wm ?_
     refine wv (OV.leq rfl rfl) ?_
     refine wv (OV.pickT rfl rfl) ?_
     refine WL.set 56 rfl (bT (v := decide (j4 value ≤ 100)) hb) ?_
     exact WL.end_ (kg hK_13')
    ·refine WL.set 52 rfl (congrArg zB hb) ?_
     refine wk ?_
     refine wk ?_
     refine wk ?_
     refine wv (OV.pickF rfl rfl) ?_
     refine WL.set 56 rfl (bF (v := decide (j4 value ≤ 100)) hb) ?_
     exact WL.end_ (kg hK_13')
   refine wA ?_
   refine WL.nil ?_
   refine kg (hK_11' [(6, zB (((l8 value) && (decide (0 ≤ j4 value))) && (decide (j4 value ≤ 100))))] _ ?_)
   refine g7 ?_
   exact hE.ret [0, 1] rfl rfl (.inl ⟨_, _, _, h, rfl⟩) (l7.of1 rfl (RV.tmp rfl))
  ·replace h := j5 h hb
   refine a7 (fun _ hK_14' => ?_)
   refine a6 ?_
   refine wv (OV.eql rfl rfl) ?_
   refine wA ?_
   refine WL.nil ?_
   refine kg (hK_14' [(0, zP pb), (2, st value), (7, Value.pointer (some ⟨pb, 5, none⟩)), (8, zI 1), (9, zI 4096), (32, zB (decide (letter = 99)))] _ ?_)
   refine b9 (b := decide (letter = 99)) rfl (fun hb => ?_) (fun hb => ?_)
   ·replace h := j6 h hb
    refine a6 ?_
    refine wm ?_
    refine wv (OV.nilCheck rfl) ?_
    refine wv (OV.fieldAddr0 rfl l9) ?_
    refine wv (OV.fieldAddr0 rfl aao) ?_
    refine wA ?_
    refine wA ?_
    refine WL.nil ?_
    refine kg (hK_6' [(2, st value), (7, Value.pointer (some ⟨pb, 7, none⟩)), (8, zI 1), (9, zI 16384)] _ ?_)
    refine a7 (fun _ hK_15' => ?_)
    refine a6 ?_
    refine wm ?_
    obtain ⟨o_3', h⟩ := h
    refine WL.call (A := []) abr rfl (aae value o_3') rfl trivial rfl rfl ?_
    refine wm ?_
    refine wv (OV.extract 0 rfl rfl) ?_
    refine wv (OV.extract 1 rfl rfl) ?_
    refine wA ?_
    refine wA ?_
    refine WL.nil ?_
    refine kg (hK_15' [(7, Value.pointer (some ⟨pb, 7, none⟩)), (8, zI 1), (9, zI 16384), (10, zI (j4 value)), (11, zB (l8 value))] _ ?_)
    refine a7 (fun _ hK_16' => ?_)
    refine a6 ?_
    refine wm ?_
    refine wm ?_
    refine wv (OV.nilCheck rfl) ?_
    refine WL.store (vs := [zI (j4 value)]) (cs' := psC wa mb ({ q with chunk := j4 value })) 0 rfl rfl rfl rfl m8 (Nat.le_of_ble_eq_true rfl) rfl rfl rfl ?_
    refine WL.nil ?_
    refine kg (hK_16' [(8, zI 1), (9, zI 16384), (10, zI (j4 value)), (11, zB (l8 value))] _ ?_)
    refine a7 (fun _ hK_17' => ?_)
    refine a6 ?_
    refine wm ?_
    refine wm ?_
    refine WL.cut 4 [(9, zI 16384), (10, zI (j4 value)), (51, zB ((l8 value) && (decide (1 ≤ j4 value))))] ?_ (fun K0_18' hK_18' => ?_)
    rotate_left
    ·refine WL.split (l8 value) (fun hb => ?_) (fun hb => ?_)
     ·refine WL.set 47 rfl (congrArg zB hb) ?_
      refine wm ?_
      refine wm ?_
      refine wv (OV.geq rfl rfl) ?_
      refine wv (OV.pickT rfl rfl) ?_
      refine WL.set 51 rfl (bT (v := decide (1 ≤ j4 value)) hb) ?_
      exact WL.end_ (kg hK_18')
     ·refine WL.set 47 rfl (congrArg zB hb) ?_
      refine wk ?_
      refine wk ?_
      refine wk ?_
      refine wv (OV.pickF rfl rfl) ?_
      refine WL.set 51 rfl (bF (v := decide (1 ≤ j4 value)) hb) ?_
      exact WL.end_ (kg hK_18')
    refine wm ?_
    refine WL.cut 4 [(56, zB (((l8 value) && (decide (1 ≤ j4 value))) && (decide (j4 value ≤ 16384))))] ?_ (fun K0_19' hK_19' => ?_)
    rotate_left
    ·refine WL.split ((l8 value) && (decide (1 ≤ j4 value))) (fun hb => ?_) (fun hb => ?_)
     ·refine WL.set 52 rfl (congrArg zB hb) ?_
      refine wm ?_
      refine wm ?_
      refine wv (OV.leq rfl rfl) ?_
      refine wv (OV.pickT rfl rfl) ?_
      refine WL.set 56 rfl (bT (v := decide (j4 value ≤ 16384)) hb) ?_
      exact WL.end_ (kg hK_19')
     ·refine WL.set 52 rfl (congrArg zB hb) ?_
      refine wk ?_
      refine wk ?_
      refine wk ?_
      refine wv (OV.pickF rfl rfl) ?_
      refine WL.set 56 rfl (bF (v := decide (j4 value ≤ 16384)) hb) ?_
      exact WL.end_ (kg hK_19')
    refine wA ?_
    refine WL.nil ?_
    refine kg (hK_17' [(6, zB (((l8 value) && (decide (1 ≤ j4 value))) && (decide (j4 value ≤ 16384))))] _ ?_)
    refine g7 ?_
    exact hE.ret [0, 1] rfl rfl (.inl ⟨_, _, _, h, rfl⟩) (l7.of1 rfl (RV.tmp rfl))
   ·replace h := j5 h hb
    refine b8 ?_
    refine kg (hK_6' [(2, st value), (7, Value.pointer (some ⟨pb, 5, none⟩)), (8, zI 1), (9, zI 4096)] _ ?_)
    refine a7 (fun _ hK_20' => ?_)
    refine a6 ?_
    refine wm ?_
    obtain ⟨o_6', h⟩ := h
    refine WL.call (A := []) abr rfl (aae value o_6') rfl trivial rfl rfl ?_
    refine wm ?_
    refine wv (OV.extract 0 rfl rfl) ?_
    refine wv (OV.extract 1 rfl rfl) ?_
    refine wA ?_
    refine wA ?_
    refine WL.nil ?_
    refine kg (hK_20' [(7, Value.pointer (some ⟨pb, 5, none⟩)), (8, zI 1), (9, zI 4096), (10, zI (j4 value)), (11, zB (l8 value))] _ ?_)
    refine a7 (fun _ hK_21' => ?_)
    refine a6 ?_
    refine wm ?_
    refine wm ?_
    refine wv (OV.nilCheck rfl) ?_
    refine WL.store (vs := [zI (j4 value)]) (cs' := psC wa mb ({ q with budget := j4 value })) 0 rfl rfl rfl rfl m8 (Nat.le_of_ble_eq_true rfl) rfl rfl rfl ?_
    refine WL.nil ?_
    refine kg (hK_21' [(8, zI 1), (9, zI 4096), (10, zI (j4 value)), (11, zB (l8 value))] _ ?_)
    refine a7 (fun _ hK_22' => ?_)
    refine a6 ?_
    refine wm ?_
    refine wm ?_
    refine WL.cut 4 [(9, zI 4096), (10, zI (j4 value)), (51, zB ((l8 value) && (decide (1 ≤ j4 value))))] ?_ (fun K0_23' hK_23' => ?_)
    rotate_left
    ·refine WL.split (l8 value) (fun hb => ?_) (fun hb => ?_)
     ·refine WL.set 47 rfl (congrArg zB hb) ?_
      refine wm ?_
      refine wm ?_
      refine wv (OV.geq rfl rfl) ?_
      refine wv (OV.pickT rfl rfl) ?_
      refine WL.set 51 rfl (bT (v := decide (1 ≤ j4 value)) hb) ?_
      exact WL.end_ (kg hK_23')
     ·refine WL.set 47 rfl (congrArg zB hb) ?_
      refine wk ?_
      refine wk ?_
      refine wk ?_
      refine wv (OV.pickF rfl rfl) ?_
      refine WL.set 51 rfl (bF (v := decide (1 ≤ j4 value)) hb) ?_
      exact WL.end_ (kg hK_23')
    refine wm ?_
    refine WL.cut 4 [(56, zB (((l8 value) && (decide (1 ≤ j4 value))) && (decide (j4 value ≤ 4096))))] ?_ (fun K0_24' hK_24' => ?_)
    rotate_left
    ·refine WL.split ((l8 value) && (decide (1 ≤ j4 value))) (fun hb => ?_) (fun hb => ?_)
     ·refine WL.set 52 rfl (congrArg zB hb) ?_
      refine wm ?_
      refine wm ?_
      refine wv (OV.leq rfl rfl) ?_
      refine wv (OV.pickT rfl rfl) ?_
      refine WL.set 56 rfl (bT (v := decide (j4 value ≤ 4096)) hb) ?_
      exact WL.end_ (kg hK_24')
     ·refine WL.set 52 rfl (congrArg zB hb) ?_
      refine wk ?_
      refine wk ?_
      refine wk ?_
      refine wv (OV.pickF rfl rfl) ?_
      refine WL.set 56 rfl (bF (v := decide (j4 value ≤ 4096)) hb) ?_
      exact WL.end_ (kg hK_24')
    refine wA ?_
    refine WL.nil ?_
    refine kg (hK_22' [(6, zB (((l8 value) && (decide (1 ≤ j4 value))) && (decide (j4 value ≤ 4096))))] _ ?_)
    refine g7 ?_
    exact hE.ret [0, 1] rfl rfl (.inl ⟨_, _, _, h, rfl⟩) (l7.of1 rfl (RV.tmp rfl))
def w1 (l : Int) (v : Bs) (q : PS) : Bool × PS :=
 if l = 111 then (!decide (v = []), { q with out := v })
 else if l = 110 then (((l8 v) && (decide (0 ≤ j4 v))) && (decide (j4 v ≤ 100)), { q with count := j4 v })
 else if l = 99 then (((l8 v) && (decide (1 ≤ j4 v))) && (decide (j4 v ≤ 16384)), { q with chunk := j4 v })
 else (((l8 v) && (decide (1 ≤ j4 v))) && (decide (j4 v ≤ 4096)), { q with budget := j4 v })
def alx (_av : List Bs) (q : PS) (sl : List Int) (l : Int) (v : Bs) (ok : Bool) (q2 : PS) (sl2 : List Int) : Prop := w1 l v q = (ok, q2) ∧ sl2 = sl
theorem aj7 (pb mb : Nat) (wa : Value) (av : List Bs) (q : PS) (sl : List Int) (l : Int) (v : Bs) (h : (0 ≤ l ∧ l < 256) ∧ v.length ≤ 140737488355328) (R : List (Nat × Obj)) (hR : w8 wa R av.length (av.flatMap j3)) :
  j8 Tryd.prog 32 [.pointer (some ⟨pb, 0, none⟩), .int .u8 l, st v] (R ++ []) [.blk pb (.cells (psC wa mb q).toArray 47 (0, 0)), cnt Tryd.prog 5 3 mb sl]
   (fun o => ∃ ok q2 sl2, alx av q sl l v ok q2 sl2 ∧ o = .ret (.bool ok) [.blk pb (.cells (psC wa mb q2).toArray 47 (0, 0)), cnt Tryd.prog 5 3 mb sl2]) := by
 refine (amw pb wa mb q av sl l v R hR (fun ok q2 sl2 => alx av q sl l v ok q2 sl2) ?_).weak ?_
 ·unfold ahk alx w1
  by_cases h1 : l = 111
  ·rw [if_pos (by simpa using h1), if_pos h1]; exact ⟨rfl, rfl⟩
  rw [if_neg (by simpa using h1), if_neg h1]
  by_cases h2 : l = 110
  ·rw [if_pos (by simpa using h2), if_pos h2]; exact ⟨h.2, rfl, rfl⟩
  rw [if_neg (by simpa using h2), if_neg h2]
  by_cases h3 : l = 99
  ·rw [if_pos (by simpa using h3), if_pos h3]; exact ⟨h.2, rfl, rfl⟩
  rw [if_neg (by simpa using h3), if_neg h3]
  exact ⟨h.2, rfl, rfl⟩
 ·rintro o (⟨ok, q2, sl2, h, rfl⟩ | h)
  ·exact ⟨ok, q2, sl2, h, rfl⟩
  ·cases h
abbrev ad7 : Bs := [117, 110, 107, 110, 111, 119, 110, 32, 111, 112, 116, 105, 111, 110]
abbrev ah4 : Bs := [111, 112, 116, 105, 111, 110, 32, 111, 117, 116, 32, 111, 102, 32, 112, 108, 97, 99, 101]
abbrev ahh : Bs := [111, 112, 116, 105, 111, 110, 32, 116, 119, 105, 99, 101]
abbrev ak5 : Bs := [111, 112, 116, 105, 111, 110, 32, 119, 105, 116, 104, 111, 117, 116, 32, 118, 97, 108, 117, 101]
abbrev air : Bs := [98, 97, 100, 32, 118, 97, 108, 117, 101]
abbrev amr : Bs := [101, 120, 116, 114, 97, 32, 111, 112, 101, 114, 97, 110, 100]
abbrev and : Bs := [110, 111, 32, 99, 111, 109, 109, 97, 110, 100]
abbrev ak1 : Bs := [117, 110, 107, 110, 111, 119, 110, 32, 99, 111, 109, 109, 97, 110, 100]
abbrev acw : Bs := [109, 105, 115, 115, 105, 110, 103, 32, 111, 112, 101, 114, 97, 110, 100]
def i7 (av : List Bs) (i : Int) : Bs := av.getD i.toNat default
def AvB (av : List Bs) : Prop := av.length ≤ 8796093022208 ∧ ∀ s ∈ av, s.length ≤ 140737488355328
theorem AvB.at {av : List Bs} (h : AvB av) (i : Int) : (i7 av i).length ≤ 140737488355328 := by
 unfold i7
 rw [List.getD_eq_getElem?_getD]
 cases hg : av[i.toNat]? with
 | none => show (([] : Bs)).length ≤ _; simp
 | some s => exact h.2 s (List.mem_of_getElem? hg)
def acn (av : List Bs) (q : PS) : Except (Int × Bs) (Bs × PS) :=
 if (i7 av q.at1).drop 2 = [] then
  if q.at1 + 1 = av.length then .error (q.at1, ak5) else .ok (i7 av (q.at1 + 1), { q with at1 := q.at1 + 1 })
 else .ok ((i7 av q.at1).drop 2, q)
def abf (av : List Bs) (q : PS) (sl : List Int) : Except (Int × Bs) (PS × List Int) :=
 let c : Int := ((i7 av q.at1).getD 1 0).toNat
 if ixB [98, 110, 99, 111] c < 0 then .error (q.at1, ad7)
 else if ixB q.sopts c < 0 then .error (q.at1, ah4)
 else if 0 < sl.count c then .error (q.at1, ahh)
 else match acn av q with
  | .error e => .error e
  | .ok (v, p) => if (w1 c v p).1 = true then .ok ({ (w1 c v p).2 with at1 := (w1 c v p).2.at1 + 1 }, c :: sl) else .error ((w1 c v p).2.at1, air)
def ana (av : List Bs) (q : PS) (sl : List Int) : Prop := AvB av ∧ 0 ≤ q.at1 ∧ q.at1 < av.length ∧ 2 ≤ (i7 av q.at1).length ∧ sl.length ≤ av.length
def amn (av : List Bs) (q : PS) (sl : List Int) (q2 : PS) (sl2 : List Int) : Prop := abf av q sl = .ok (q2, sl2)
def aln (av : List Bs) (q : PS) (sl : List Int) (e : Int) (why : Bs) : Prop := abf av q sl = .error (e, why)
def ada (q : PS) (av : List (List UInt8)) (sl : List Int) (K : PS → (List Int) → Prop) (KP : Value → PS → (List Int) → Prop) : Prop :=
 (0 ≤ q.at1 ∧ q.at1 < (av.length : Int)) ∧
 (0 ≤ (1 : Int) ∧ (1 : Int) < (av.getD (q.at1).toNat default).length) ∧
 (0 ≤ (((av.getD (q.at1).toNat default).getD (1 : Int).toNat 0).toNat : Int) ∧ (((av.getD (q.at1).toNat default).getD (1 : Int).toNat 0).toNat : Int) < 256) ∧
 (if (decide (ixB ([98, 110, 99, 111] : List UInt8) (((av.getD (q.at1).toNat default).getD (1 : Int).toNat 0).toNat : Int) < 0)) = true then
  KP (Value.iface 28 (Value.agg [zI 140, zI q.at1, st ([117, 110, 107, 110, 111, 119, 110, 32, 111, 112, 116, 105, 111, 110] : List UInt8)].toArray)) q sl
 else
  (0 ≤ (((av.getD (q.at1).toNat default).getD (1 : Int).toNat 0).toNat : Int) ∧ (((av.getD (q.at1).toNat default).getD (1 : Int).toNat 0).toNat : Int) < 256) ∧
  (if (decide (ixB q.sopts (((av.getD (q.at1).toNat default).getD (1 : Int).toNat 0).toNat : Int) < 0)) = true then
   KP (Value.iface 28 (Value.agg [zI 140, zI q.at1, st ([111, 112, 116, 105, 111, 110, 32, 111, 117, 116, 32, 111, 102, 32, 112, 108, 97, 99, 101] : List UInt8)].toArray)) q sl
  else
   (0 ≤ (((av.getD (q.at1).toNat default).getD (1 : Int).toNat 0).toNat : Int) ∧ (((av.getD (q.at1).toNat default).getD (1 : Int).toNat 0).toNat : Int) < 256) ∧
   (if (decide (0 < ((sl.count (((av.getD (q.at1).toNat default).getD (1 : Int).toNat 0).toNat : Int) : Nat) : Int))) = true then
    KP (Value.iface 28 (Value.agg [zI 140, zI q.at1, st ([111, 112, 116, 105, 111, 110, 32, 116, 119, 105, 99, 101] : List UInt8)].toArray)) q sl
   else
    (0 ≤ (((av.getD (q.at1).toNat default).getD (1 : Int).toNat 0).toNat : Int) ∧ (((av.getD (q.at1).toNat default).getD (1 : Int).toNat 0).toNat : Int) < 256) ∧
    (I64 (((sl.count (((av.getD (q.at1).toNat default).getD (1 : Int).toNat 0).toNat : Int) : Nat) : Int) + 1)) ∧
    ((0 ≤ (((av.getD (q.at1).toNat default).getD (1 : Int).toNat 0).toNat : Int) ∧ (((av.getD (q.at1).toNat default).getD (1 : Int).toNat 0).toNat : Int) < 256) ∧ sl.length < 140737488355328) ∧
    (0 ≤ (2 : Int) ∧ (2 : Int) ≤ (av.getD (q.at1).toNat default).length) ∧
    ∃ (J0 : (List UInt8) → PS → Prop),
     (∀ (value : List UInt8) (p : PS), J0 value p →
      ((0 ≤ (((av.getD (q.at1).toNat default).getD (1 : Int).toNat 0).toNat : Int) ∧ (((av.getD (q.at1).toNat default).getD (1 : Int).toNat 0).toNat : Int) < 256) ∧ value.length ≤ 140737488355328) ∧
      (∀ (ok : Bool) (q_1' : PS) (sl_1' : List Int), alx av p ((((av.getD (q.at1).toNat default).getD (1 : Int).toNat 0).toNat : Int) :: sl) (((av.getD (q.at1).toNat default).getD (1 : Int).toNat 0).toNat : Int) value ok q_1' sl_1' →
       (if (!ok) = true then
        KP (Value.iface 28 (Value.agg [zI 140, zI q_1'.at1, st ([98, 97, 100, 32, 118, 97, 108, 117, 101] : List UInt8)].toArray)) q_1' sl_1'
       else
        (I64 (q_1'.at1 + 1)) ∧
        K ({ q_1' with at1 := q_1'.at1 + 1 }) sl_1'))) ∧
     (if (decide ((av.getD (q.at1).toNat default).drop (2 : Int).toNat = [])) = true then
      (I64 (q.at1 + 1)) ∧
      (if (decide (({ q with at1 := q.at1 + 1 }).at1 = (av.length : Int))) = true then
       KP (Value.iface 28 (Value.agg [zI 140, zI q.at1, st ([111, 112, 116, 105, 111, 110, 32, 119, 105, 116, 104, 111, 117, 116, 32, 118, 97, 108, 117, 101] : List UInt8)].toArray)) ({ q with at1 := q.at1 + 1 }) ((((av.getD (q.at1).toNat default).getD (1 : Int).toNat 0).toNat : Int) :: sl)
      else
       (0 ≤ (({ q with at1 := q.at1 + 1 }).at1) ∧ (({ q with at1 := q.at1 + 1 }).at1) < (av.length : Int)) ∧
       J0 (av.getD ((({ q with at1 := q.at1 + 1 }).at1)).toNat default) ({ q with at1 := q.at1 + 1 }))
     else
      J0 ((av.getD (q.at1).toNat default).drop (2 : Int).toNat) q))))
theorem aiv (pb : Nat) (wa : Value) (mb : Nat) (q : PS) (av : List (List UInt8)) (sl : List Int) (Ri1 : List (Nat × Obj)) (hRi1 : w8 wa Ri1 av.length (av.flatMap j3)) (K : PS → (List Int) → Prop) (KP : Value → PS → (List Int) → Prop) (h : ada q av sl K KP) :
  j8 Tryd.prog 24 [zP pb] (Ri1 ++ []) [HA.blk pb (.cells (psC wa mb q).toArray 47 (0, 0)), cnt Tryd.prog 5 3 mb sl] (fun o => (∃ (d : PS) (D : List Int), K d D ∧ o = .ret (Value.tuple #[]) [HA.blk pb (.cells (psC wa mb d).toArray 47 (0, 0)), cnt Tryd.prog 5 3 mb D]) ∨ (∃ (pv : Value) (d : PS) (D : List Int), KP pv d D ∧ o = .pan [{ v := pv, recovered := false }] [HA.blk pb (.cells (psC wa mb d).toArray 47 (0, 0)), cnt Tryd.prog 5 3 mb D])) := by
 unfold ada at h
 refine g9 (n := 108) (L0 := [(0, zP pb)]) Tryd.func24 rfl rfl rfl rfl (fun w0 M Q hE => ?_)
 have hi1 : LIn ⟨108, [], w0, M, (Ri1 ++ [])⟩ wa av.length (av.flatMap j3) := LIn.mk hRi1 (fun p hp => by simp [hp])
 refine a7 (fun _ hK => ?_)
 refine a6 ?_
 refine wm ?_
 refine wv (OV.nilCheck rfl) ?_
 refine wv (OV.fieldAddr0 rfl k9) ?_
 refine wv (OV.load rfl (At.own 0 rfl) rfl g8) ?_
 refine wA ?_
 refine WL.nil ?_
 refine kg (hK [(0, zP pb), (2, zI q.at1)] _ ?_)
 refine a7 (fun _ hK_1' => ?_)
 refine a6 ?_
 refine wm ?_
 refine wv (OV.nilCheck rfl) ?_
 refine wv (OV.fieldAddr0 rfl p3) ?_
 refine wv (OV.load rfl (At.own 0 rfl) rfl s7) ?_
 refine wm ?_
 obtain ⟨o, h⟩ := h
 refine wv (OV.indexIn hi1 rfl rfl f0 o) ?_
 refine wv (OV.loadInE1 (f := j3) hi1 rfl i6 (by omega) rfl f7) ?_
 refine wA ?_
 refine WL.nil ?_
 refine kg (hK_1' [(0, zP pb), (2, zI q.at1), (3, st (av.getD (q.at1).toNat default))] _ ?_)
 refine a7 (fun _ hK_2' => ?_)
 refine a6 ?_
 refine wm ?_
 obtain ⟨o_1', h⟩ := h
 refine wv (OV.index rfl rfl f8 o_1') ?_
 refine wA ?_
 refine WL.nil ?_
 refine kg (hK_2' [(0, zP pb), (2, zI q.at1), (3, st (av.getD (q.at1).toNat default)), (4, zU (((av.getD (q.at1).toNat default).getD (1 : Int).toNat 0).toNat : Int))] _ ?_)
 refine a7 (fun _ hK_3' => ?_)
 refine f9 ?_
 refine a7 (fun _ hK_4' => ?_)
 refine a6 ?_
 refine wm ?_
 obtain ⟨o_2', h⟩ := h
 refine WL.call (A := []) aff rfl (aee ([98, 110, 99, 111] : List UInt8) (((av.getD (q.at1).toNat default).getD (1 : Int).toNat 0).toNat : Int) o_2') rfl trivial rfl rfl ?_
 refine wv (OV.lss rfl rfl) ?_
 refine wA ?_
 refine WL.nil ?_
 refine kg (hK_4' [(0, zP pb), (2, zI q.at1), (3, st (av.getD (q.at1).toNat default)), (4, zU (((av.getD (q.at1).toNat default).getD (1 : Int).toNat 0).toNat : Int)), (19, zB (decide (ixB ([98, 110, 99, 111] : List UInt8) (((av.getD (q.at1).toNat default).getD (1 : Int).toNat 0).toNat : Int) < 0)))] _ ?_)
 refine b9 (b := decide (ixB ([98, 110, 99, 111] : List UInt8) (((av.getD (q.at1).toNat default).getD (1 : Int).toNat 0).toNat : Int) < 0)) rfl (fun hb => ?_) (fun hb => ?_)
 ·replace h := j6 h hb
  refine a6 ?_
  refine wm ?_
  refine wm ?_
  refine WL.callS u4 rfl (s5 (zP pb) q.at1 ([117, 110, 107, 110, 111, 119, 110, 32, 111, 112, 116, 105, 111, 110] : List UInt8)) rfl trivial rfl rfl (fun r H' hS => by cases hS) (fun c H' hS => ?_)
  cases hS
  exact hE.pan [0, 1] rfl rfl (.inr ⟨_, _, _, h, rfl⟩)
 ·replace h := j5 h hb
  refine a7 (fun _ hK_5' => ?_)
  refine a6 ?_
  refine wm ?_
  refine wv (OV.nilCheck rfl) ?_
  refine wv (OV.fieldAddr0 rfl u6) ?_
  refine wv (OV.fieldAddr rfl aan) ?_
  refine wv (OV.load rfl (At.own 0 rfl) rfl f7) ?_
  refine wm ?_
  obtain ⟨o_3', h⟩ := h
  refine WL.call (A := []) aff rfl (aee q.sopts (((av.getD (q.at1).toNat default).getD (1 : Int).toNat 0).toNat : Int) o_3') rfl trivial rfl rfl ?_
  refine wv (OV.lss rfl rfl) ?_
  refine wA ?_
  refine WL.nil ?_
  refine kg (hK_5' [(0, zP pb), (2, zI q.at1), (3, st (av.getD (q.at1).toNat default)), (4, zU (((av.getD (q.at1).toNat default).getD (1 : Int).toNat 0).toNat : Int)), (26, zB (decide (ixB q.sopts (((av.getD (q.at1).toNat default).getD (1 : Int).toNat 0).toNat : Int) < 0)))] _ ?_)
  refine b9 (b := decide (ixB q.sopts (((av.getD (q.at1).toNat default).getD (1 : Int).toNat 0).toNat : Int) < 0)) rfl (fun hb => ?_) (fun hb => ?_)
  ·replace h := j6 h hb
   refine a6 ?_
   refine wm ?_
   refine wm ?_
   refine WL.callS u4 rfl (s5 (zP pb) q.at1 ([111, 112, 116, 105, 111, 110, 32, 111, 117, 116, 32, 111, 102, 32, 112, 108, 97, 99, 101] : List UInt8)) rfl trivial rfl rfl (fun r H' hS => by cases hS) (fun c H' hS => ?_)
   cases hS
   exact hE.pan [0, 1] rfl rfl (.inr ⟨_, _, _, h, rfl⟩)
  ·replace h := j5 h hb
   refine a7 (fun _ hK_6' => ?_)
   refine a6 ?_
   refine wm ?_
   refine wv (OV.nilCheck rfl) ?_
   refine wv (OV.fieldAddr0 rfl abz) ?_
   refine wv (OV.load rfl (At.own 0 rfl) rfl aeq) ?_
   refine wm ?_
   obtain ⟨o_4', h⟩ := h
   refine wv (OV.lookup 1 rfl rfl rfl abv o_4') ?_
   refine wv (OV.gtr rfl rfl) ?_
   refine wA ?_
   refine WL.nil ?_
   refine kg (hK_6' [(0, zP pb), (2, zI q.at1), (3, st (av.getD (q.at1).toNat default)), (4, zU (((av.getD (q.at1).toNat default).getD (1 : Int).toNat 0).toNat : Int)), (38, zB (decide (0 < ((sl.count (((av.getD (q.at1).toNat default).getD (1 : Int).toNat 0).toNat : Int) : Nat) : Int))))] _ ?_)
   refine b9 (b := decide (0 < ((sl.count (((av.getD (q.at1).toNat default).getD (1 : Int).toNat 0).toNat : Int) : Nat) : Int))) rfl (fun hb => ?_) (fun hb => ?_)
   ·replace h := j6 h hb
    refine a6 ?_
    refine wm ?_
    refine wm ?_
    refine WL.callS u4 rfl (s5 (zP pb) q.at1 ([111, 112, 116, 105, 111, 110, 32, 116, 119, 105, 99, 101] : List UInt8)) rfl trivial rfl rfl (fun r H' hS => by cases hS) (fun c H' hS => ?_)
    cases hS
    exact hE.pan [0, 1] rfl rfl (.inr ⟨_, _, _, h, rfl⟩)
   ·replace h := j5 h hb
    refine b8 ?_
    refine kg (hK_3' [(0, zP pb), (2, zI q.at1), (3, st (av.getD (q.at1).toNat default)), (4, zU (((av.getD (q.at1).toNat default).getD (1 : Int).toNat 0).toNat : Int))] _ ?_)
    refine a7 (fun _ hK_7' => ?_)
    refine a6 ?_
    refine wm ?_
    refine wv (OV.nilCheck rfl) ?_
    refine wv (OV.fieldAddr0 rfl abz) ?_
    refine wv (OV.load rfl (At.own 0 rfl) rfl aeq) ?_
    refine wm ?_
    obtain ⟨o_5', h⟩ := h
    refine wv (OV.lookup 1 rfl rfl rfl abv o_5') ?_
    obtain ⟨o_6', h⟩ := h
    refine wv (OV.add rfl rfl o_6') ?_
    obtain ⟨o_7', h⟩ := h
    refine WL.mapUpdate 1 rfl rfl rfl rfl abv o_7' rfl ?_
    refine WL.nil ?_
    refine kg (hK_7' [(0, zP pb), (2, zI q.at1), (3, st (av.getD (q.at1).toNat default)), (4, zU (((av.getD (q.at1).toNat default).getD (1 : Int).toNat 0).toNat : Int))] _ ?_)
    refine a7 (fun _ hK_8' => ?_)
    refine a6 ?_
    refine wm ?_
    obtain ⟨o_8', h⟩ := h
    refine wv (OV.sliceL rfl rfl f8 o_8') ?_
    refine wA ?_
    refine WL.nil ?_
    refine kg (hK_8' [(0, zP pb), (2, zI q.at1), (4, zU (((av.getD (q.at1).toNat default).getD (1 : Int).toNat 0).toNat : Int)), (5, st ((av.getD (q.at1).toNat default).drop (2 : Int).toNat))] _ ?_)
    obtain ⟨J0, hJ, h⟩ := h
    refine q6 (X := (List UInt8) × PS) (fun σ => J0 σ.1 σ.2) (fun σ => [(0, zP pb), (4, zU (((av.getD (q.at1).toNat default).getD (1 : Int).toNat 0).toNat : Int)), (5, st σ.1)]) (fun σ => [HA.blk pb (.cells (psC wa mb σ.2).toArray 47 (0, 0)), cnt Tryd.prog 5 3 mb ((((av.getD (q.at1).toNat default).getD (1 : Int).toNat 0).toNat : Int) :: sl)]) ?_ (fun K0_13' hK_13' => ?_)
    ·rintro ⟨value, p⟩ hj
     replace h := hJ value p hj
     show WC _ _ _ _ [(0, zP pb), (4, zU (((av.getD (q.at1).toNat default).getD (1 : Int).toNat 0).toNat : Int)), (5, st value)] [HA.blk pb (.cells (psC wa mb p).toArray 47 (0, 0)), cnt Tryd.prog 5 3 mb ((((av.getD (q.at1).toNat default).getD (1 : Int).toNat 0).toNat : Int) :: sl)]
     refine a7 (fun _ hK_14' => ?_)
     refine a7 (fun _ hK_15' => ?_)
     refine a6 ?_
     refine wm ?_
     refine wm ?_
     refine wm ?_
     obtain ⟨o_11', h⟩ := h
     refine WL.callS1 ai5 rfl (aj7 pb mb wa av p ((((av.getD (q.at1).toNat default).getD (1 : Int).toNat 0).toNat : Int) :: sl) (((av.getD (q.at1).toNat default).getD (1 : Int).toNat 0).toNat : Int) value o_11') rfl (LOk.inn hi1) trivial rfl rfl (fun r H' hS => ?_) (fun c H' hS => ?_)
     ·obtain ⟨ok, q_1', sl_1', hc, ho⟩ := hS
      cases ho
      replace h := h ok q_1' sl_1' hc
      refine wv (OV.not rfl) ?_
      refine WL.nil ?_
      refine kg (hK_15' [(0, zP pb), (94, zB (!ok))] _ ?_)
      refine b9 (b := !ok) rfl (fun hb => ?_) (fun hb => ?_)
      ·replace h := j6 h hb
       refine a6 ?_
       refine wm ?_
       refine wm ?_
       refine wv (OV.nilCheck rfl) ?_
       refine wv (OV.fieldAddr0 rfl k9) ?_
       refine wv (OV.load rfl (At.own 0 rfl) rfl g8) ?_
       refine WL.callS u4 rfl (s5 (zP pb) q_1'.at1 ([98, 97, 100, 32, 118, 97, 108, 117, 101] : List UInt8)) rfl trivial rfl rfl (fun r H' hS => by cases hS) (fun c H' hS => ?_)
       cases hS
       exact hE.pan [0, 1] rfl rfl (.inr ⟨_, _, _, h, rfl⟩)
      ·replace h := j5 h hb
       refine b8 ?_
       refine kg (hK_14' [(0, zP pb)] _ ?_)
       refine a6 ?_
       refine wm ?_
       refine wv (OV.nilCheck rfl) ?_
       refine wv (OV.fieldAddr0 rfl k9) ?_
       refine wv (OV.load rfl (At.own 0 rfl) rfl g8) ?_
       obtain ⟨o_12', h⟩ := h
       refine wv (OV.add rfl rfl o_12') ?_
       refine wv (OV.nilCheck rfl) ?_
       refine wv (OV.fieldAddr0 rfl k9) ?_
       refine WL.store (vs := [zI (q_1'.at1 + 1)]) (cs' := psC wa mb ({ q_1' with at1 := q_1'.at1 + 1 })) 0 rfl rfl rfl rfl m8 (Nat.le_of_ble_eq_true rfl) rfl rfl rfl ?_
       refine WL.nil ?_
       exact hE.norm [0, 1] rfl rfl (.inl ⟨_, _, h, rfl⟩) (l7.none rfl)
     ·obtain ⟨ok, q_1', sl_1', hc, ho⟩ := hS
      cases ho
    ·skip
     refine a7 (fun _ hK_16' => ?_)
     refine a6 ?_
     refine wm ?_
     refine wv (OV.eqlS rfl rfl) ?_
     refine WL.nil ?_
     refine kg (hK_16' [(0, zP pb), (2, zI q.at1), (4, zU (((av.getD (q.at1).toNat default).getD (1 : Int).toNat 0).toNat : Int)), (5, st ((av.getD (q.at1).toNat default).drop (2 : Int).toNat)), (59, zB (decide ((av.getD (q.at1).toNat default).drop (2 : Int).toNat = [])))] _ ?_)
     refine b9 (b := decide ((av.getD (q.at1).toNat default).drop (2 : Int).toNat = [])) rfl (fun hb => ?_) (fun hb => ?_)
     ·replace h := j6 h hb
      refine a7 (fun _ hK_17' => ?_)
      refine a6 ?_
      refine wm ?_
      refine wv (OV.nilCheck rfl) ?_
      refine wv (OV.fieldAddr0 rfl k9) ?_
      refine wv (OV.load rfl (At.own 0 rfl) rfl g8) ?_
      obtain ⟨o_13', h⟩ := h
      refine wv (OV.add rfl rfl o_13') ?_
      refine wv (OV.nilCheck rfl) ?_
      refine wv (OV.fieldAddr0 rfl k9) ?_
      refine WL.store (vs := [zI (q.at1 + 1)]) (cs' := psC wa mb ({ q with at1 := q.at1 + 1 })) 0 rfl rfl rfl rfl m8 (Nat.le_of_ble_eq_true rfl) rfl rfl rfl ?_
      refine WL.nil ?_
      refine kg (hK_17' [(0, zP pb), (2, zI q.at1), (4, zU (((av.getD (q.at1).toNat default).getD (1 : Int).toNat 0).toNat : Int))] _ ?_)
      refine a7 (fun _ hK_18' => ?_)
      refine a7 (fun _ hK_19' => ?_)
      refine w5 9 [] r5 (by kernel_rfl) rfl (fun T_2' hT_2' => ?_)
      refine fv (fun _ => OV.move rfl) ?_
      refine fv (fun _ => OV.nilCheck rfl) ?_
      refine fv (fun _ => OV.fieldAddr0 rfl k9) ?_
      refine fv (fun _ => OV.load rfl (At.own 0 rfl) rfl g8) ?_
      refine fv (fun _ => OV.move rfl) ?_
      refine fv (fun _ => OV.nilCheck rfl) ?_
      refine fv (fun _ => OV.fieldAddr0 rfl p3) ?_
      refine fv (fun _ => OV.load rfl (At.own 0 rfl) rfl s7) ?_
      refine fv (fun _ => OV.lenIn hi1 rfl f0) ?_
      refine FL.weak (L' := fun γ => [(0, zP pb), (2, zI q.at1), (4, zU (((av.getD (q.at1).toNat default).getD (1 : Int).toNat 0).toNat : Int)), (70, zI (({ q with at1 := q.at1 + 1 }).at1)), (75, zI (av.length : Int))]) (fun γ => ⟨rfl, rfl, rfl, rfl, rfl, trivial⟩) (FL.nil (hT_2' (fun γ => [(0, zP pb), (2, zI q.at1), (4, zU (((av.getD (q.at1).toNat default).getD (1 : Int).toNat 0).toNat : Int)), (70, zI (({ q with at1 := q.at1 + 1 }).at1)), (75, zI (av.length : Int))]) (fun γ => ?_)))
      refine wv (OV.eql rfl rfl) ?_
      refine WL.nil ?_
      refine kg (hK_19' [(0, zP pb), (2, zI q.at1), (4, zU (((av.getD (q.at1).toNat default).getD (1 : Int).toNat 0).toNat : Int)), (76, zB (decide (({ q with at1 := q.at1 + 1 }).at1 = (av.length : Int))))] _ ?_)
      refine b9 (b := decide (({ q with at1 := q.at1 + 1 }).at1 = (av.length : Int))) rfl (fun hb => ?_) (fun hb => ?_)
      ·replace h := j6 h hb
       refine a6 ?_
       refine wm ?_
       refine wm ?_
       refine WL.callS u4 rfl (s5 (zP pb) q.at1 ([111, 112, 116, 105, 111, 110, 32, 119, 105, 116, 104, 111, 117, 116, 32, 118, 97, 108, 117, 101] : List UInt8)) rfl trivial rfl rfl (fun r H' hS => by cases hS) (fun c H' hS => ?_)
       cases hS
       exact hE.pan [0, 1] rfl rfl (.inr ⟨_, _, _, h, rfl⟩)
      ·replace h := j5 h hb
       refine b8 ?_
       refine kg (hK_18' [(0, zP pb), (4, zU (((av.getD (q.at1).toNat default).getD (1 : Int).toNat 0).toNat : Int))] _ ?_)
       refine w5 8 [] r5 (by kernel_rfl) rfl (fun T_3' hT_3' => ?_)
       refine fv (fun _ => OV.move rfl) ?_
       refine fv (fun _ => OV.nilCheck rfl) ?_
       refine fv (fun _ => OV.fieldAddr0 rfl p3) ?_
       refine fv (fun _ => OV.load rfl (At.own 0 rfl) rfl s7) ?_
       refine fv (fun _ => OV.move rfl) ?_
       refine fv (fun _ => OV.nilCheck rfl) ?_
       refine fv (fun _ => OV.fieldAddr0 rfl k9) ?_
       refine fv (fun _ => OV.load rfl (At.own 0 rfl) rfl g8) ?_
       refine FL.weak (L' := fun γ => [(0, zP pb), (4, zU (((av.getD (q.at1).toNat default).getD (1 : Int).toNat 0).toNat : Int)), (83, wa), (87, zI (({ q with at1 := q.at1 + 1 }).at1))]) (fun γ => ⟨rfl, rfl, rfl, rfl, trivial⟩) (FL.nil (hT_3' (fun γ => [(0, zP pb), (4, zU (((av.getD (q.at1).toNat default).getD (1 : Int).toNat 0).toNat : Int)), (83, wa), (87, zI (({ q with at1 := q.at1 + 1 }).at1))]) (fun γ => ?_)))
       obtain ⟨o_14', h⟩ := h
       refine wv (OV.indexIn hi1 rfl rfl f0 o_14') ?_
       refine wv (OV.loadInE1 (f := j3) hi1 rfl i6 (by omega) rfl f7) ?_
       refine wA ?_
       refine WL.nil ?_
       exact kh (hK_13' ((av.getD ((({ q with at1 := q.at1 + 1 }).at1)).toNat default), { q with at1 := q.at1 + 1 }) h) [0, 1]
     ·replace h := j5 h hb
      refine b8 ?_
      exact kh (hK_13' ((av.getD (q.at1).toNat default).drop (2 : Int).toNat, q) h) [0, 1]
theorem als (l : Int) (v : Bs) (q : PS) : (w1 l v q).2.at1 = q.at1 := by
 unfold w1
 (repeat' split) <;> rfl
theorem agh (pb mb : Nat) (wa : Value) (av : List Bs) (q : PS) (sl : List Int) (h : ana av q sl) (R : List (Nat × Obj)) (hR : w8 wa R av.length (av.flatMap j3)) :
  j8 Tryd.prog 24 [.pointer (some ⟨pb, 0, none⟩)] (R ++ []) [.blk pb (.cells (psC wa mb q).toArray 47 (0, 0)), cnt Tryd.prog 5 3 mb sl]
   (fun o => (∃ q2 sl2, amn av q sl q2 sl2 ∧ o = .ret (.tuple #[]) [.blk pb (.cells (psC wa mb q2).toArray 47 (0, 0)), cnt Tryd.prog 5 3 mb sl2]) ∨
    (∃ e why q2 sl2, aln av q sl e why ∧ o = .pan [{ v := x2 e why, recovered := false }] [.blk pb (.cells (psC wa mb q2).toArray 47 (0, 0)), cnt Tryd.prog 5 3 mb sl2])) := by
 refine (aiv pb wa mb q av sl R hR (fun q2 sl2 => amn av q sl q2 sl2) (fun v _ _ => ∃ e why, aln av q sl e why ∧ v = x2 e why) ?_).weak ?_
 ·obtain ⟨hA, i0, i1, h2, h3⟩ := h
  have hA1 := hA.1
  unfold ada
  show (0 ≤ q.at1 ∧ q.at1 < (av.length : Int)) ∧ (0 ≤ (1 : Int) ∧ (1 : Int) < (i7 av q.at1).length) ∧ _
  have hE : ∀ {e : Int} {why : Bs}, abf av q sl = .error (e, why) → ∃ e' why', aln av q sl e' why' ∧ x2 e why = x2 e' why' := fun h => ⟨_, _, h, rfl⟩
  generalize hc : ((i7 av q.at1).getD (1 : Int).toNat 0) = c
  have hc' : (i7 av q.at1).getD 1 0 = c := hc
  have hlt := c.toNat_lt
  have hcb : 0 ≤ ((c.toNat : Nat) : Int) ∧ ((c.toNat : Nat) : Int) < 256 := ⟨by omega, by omega⟩
  have hu : abf av q sl = (if ixB [98, 110, 99, 111] ((c.toNat : Nat) : Int) < 0 then .error (q.at1, ad7)
   else if ixB q.sopts ((c.toNat : Nat) : Int) < 0 then .error (q.at1, ah4)
   else if 0 < sl.count ((c.toNat : Nat) : Int) then .error (q.at1, ahh)
   else match acn av q with
    | .error e => .error e
    | .ok (v, p) => if (w1 ((c.toNat : Nat) : Int) v p).1 = true then .ok ({ (w1 ((c.toNat : Nat) : Int) v p).2 with at1 := (w1 ((c.toNat : Nat) : Int) v p).2.at1 + 1 }, ((c.toNat : Nat) : Int) :: sl) else .error ((w1 ((c.toNat : Nat) : Int) v p).2.at1, air)) := by
   unfold abf; rw [hc']
  refine ⟨⟨i0, i1⟩, ⟨by omega, by omega⟩, ?_⟩
  rw [show ((av.getD (q.at1).toNat default).getD (1 : Int).toNat 0) = c from hc]
  refine ⟨hcb, ?_⟩
  by_cases k1 : ixB [98, 110, 99, 111] ((c.toNat : Nat) : Int) < 0
  ·rw [if_pos (by simpa using k1)]
   exact hE (by rw [hu, if_pos k1])
  rw [if_neg (by simpa using k1)]
  refine ⟨hcb, ?_⟩
  by_cases k2 : ixB q.sopts ((c.toNat : Nat) : Int) < 0
  ·rw [if_pos (by simpa using k2)]
   exact hE (by rw [hu, if_neg k1, if_pos k2])
  rw [if_neg (by simpa using k2)]
  refine ⟨hcb, ?_⟩
  have hcl : sl.count ((c.toNat : Nat) : Int) ≤ sl.length := List.count_le_length
  by_cases k3 : 0 < sl.count ((c.toNat : Nat) : Int)
  ·rw [if_pos (by rw [decide_eq_true_eq]; omega)]
   exact hE (by rw [hu, if_neg k1, if_neg k2, if_pos k3])
  rw [if_neg (by rw [decide_eq_true_eq]; omega)]
  refine ⟨hcb, by unfold I64; omega, ⟨hcb, by omega⟩, ⟨by omega, by show (2 : Int) ≤ ((i7 av q.at1).length : Int); omega⟩, fun v p => acn av q = .ok (v, p) ∧ v.length ≤ 140737488355328 ∧ 0 ≤ p.at1 ∧ p.at1 < av.length, ?_, ?_⟩
  ·rintro v p ⟨hv, hvl, hp0, hp1⟩
   refine ⟨⟨hcb, hvl⟩, ?_⟩
   rintro ok q2 sl2 ⟨hs, rfl⟩
   have hat := als ((c.toNat : Nat) : Int) v p
   have hu2 := hu
   rw [if_neg k1, if_neg k2, if_neg k3, hv] at hu2
   simp only [hs] at hu2 hat
   cases ok with
   | false =>
    rw [if_pos (show (!false) = true from rfl)]
    exact hE (by rw [hu2]; rfl)
   | true =>
    rw [if_neg (by simp)]
    refine ⟨by unfold I64; omega, ?_⟩
    show abf av q sl = _
    rw [hu2]; rfl
  ·by_cases k4 : (i7 av q.at1).drop 2 = []
   ·rw [if_pos (by rw [decide_eq_true_eq]; exact k4)]
    refine ⟨by unfold I64; omega, ?_⟩
    by_cases k5 : q.at1 + 1 = av.length
    ·rw [if_pos (by rw [decide_eq_true_eq]; exact k5)]
     refine hE ?_
     rw [hu, if_neg k1, if_neg k2, if_neg k3]
     unfold acn
     rw [if_pos k4, if_pos k5]
    ·rw [if_neg (by rw [decide_eq_true_eq]; exact k5)]
     refine ⟨⟨by show 0 ≤ q.at1 + 1; omega, by show q.at1 + 1 < (av.length : Int); omega⟩, ?_, hA.at _, by show 0 ≤ q.at1 + 1; omega, by show q.at1 + 1 < (av.length : Int); omega⟩
     unfold acn
     rw [if_pos k4, if_neg k5]; rfl
   ·rw [if_neg (by rw [decide_eq_true_eq]; exact k4)]
    refine ⟨?_, ?_, i0, i1⟩
    ·unfold acn
     rw [if_neg k4]; rfl
    ·have := hA.at q.at1
     show ((i7 av q.at1).drop 2).length ≤ _
     rw [List.length_drop]; omega
 ·rintro o (⟨q2, sl2, h, rfl⟩ | ⟨v, q2, sl2, ⟨e, why, h, rfl⟩, rfl⟩)
  ·exact .inl ⟨q2, sl2, h, rfl⟩
  ·exact .inr ⟨e, why, q2, sl2, h, rfl⟩
def y5 (l : Int) (a : Bs) (q : PS) : PS :=
 if l = 108 then { q with lens := a } else if l = 118 then { q with view := a } else if l = 115 then { q with src := a } else if l = 116 then { q with text := a } else if l = 97 then { q with at0 := j4 a } else if l = 100 then { q with del := j4 a } else q
def abg (av : List Bs) (q : PS) : Except (Int × Bs) PS :=
 if q.got = q.sops.length then .error (q.at1, amr)
 else
  let l : Int := (q.sops.getD q.got.toNat 0).toNat
  if (l = 97 ∨ l = 100) ∧ l8 (i7 av q.at1) = false then .error (q.at1, air)
  else .ok { y5 l (i7 av q.at1) q with got := q.got + 1, at1 := q.at1 + 1 }
def am8 (av : List Bs) (q : PS) (_sl : List Int) : Prop := AvB av ∧ 0 ≤ q.at1 ∧ q.at1 < av.length ∧ 0 ≤ q.got ∧ q.got ≤ q.sops.length ∧ q.sops.length ≤ 100
def amk (av : List Bs) (q : PS) (sl : List Int) (q2 : PS) (sl2 : List Int) : Prop := abg av q = .ok q2 ∧ sl2 = sl
def alk (av : List Bs) (q : PS) (_sl : List Int) (e : Int) (why : Bs) : Prop := abg av q = .error (e, why)
def acl (q : PS) (av : List (List UInt8)) (sl : List Int) (K : PS → (List Int) → Prop) (KP : Value → PS → (List Int) → Prop) : Prop :=
 (if (decide (q.got = (q.sops.length : Int))) = true then
  KP (Value.iface 28 (Value.agg [zI 140, zI q.at1, st ([101, 120, 116, 114, 97, 32, 111, 112, 101, 114, 97, 110, 100] : List UInt8)].toArray)) q sl
 else
  (0 ≤ q.at1 ∧ q.at1 < (av.length : Int)) ∧
  ((av.getD (q.at1).toNat default).length ≤ 140737488355328) ∧
  ∃ (J0 : PS → Prop),
   (∀ (p : PS), J0 p →
    (0 ≤ p.got ∧ p.got < p.sops.length) ∧
    (if (((decide (((p.sops.getD p.got.toNat 0).toNat : Int) = 97)) || (decide (((p.sops.getD p.got.toNat 0).toNat : Int) = 100))) && (!(l8 (av.getD (q.at1).toNat default)))) = true then
     KP (Value.iface 28 (Value.agg [zI 140, zI p.at1, st ([98, 97, 100, 32, 118, 97, 108, 117, 101] : List UInt8)].toArray)) p sl
    else
     (I64 (p.got + 1)) ∧
     (I64 ((({ p with got := p.got + 1 }).at1) + 1)) ∧
     K ({ { p with got := p.got + 1 } with at1 := (({ p with got := p.got + 1 }).at1) + 1 }) sl)) ∧
   (0 ≤ q.got ∧ q.got < q.sops.length) ∧
   (if (decide (((q.sops.getD q.got.toNat 0).toNat : Int) = 108)) = true then
    J0 ({ q with lens := (av.getD (q.at1).toNat default) })
   else
    (if (decide (((q.sops.getD q.got.toNat 0).toNat : Int) = 118)) = true then
     J0 ({ q with view := (av.getD (q.at1).toNat default) })
    else
     (if (decide (((q.sops.getD q.got.toNat 0).toNat : Int) = 115)) = true then
      J0 ({ q with src := (av.getD (q.at1).toNat default) })
     else
      (if (decide (((q.sops.getD q.got.toNat 0).toNat : Int) = 116)) = true then
       J0 ({ q with text := (av.getD (q.at1).toNat default) })
      else
       (if (decide (((q.sops.getD q.got.toNat 0).toNat : Int) = 97)) = true then
        J0 ({ q with at0 := j4 (av.getD (q.at1).toNat default) })
       else
        (if (decide (((q.sops.getD q.got.toNat 0).toNat : Int) = 100)) = true then
         J0 ({ q with del := j4 (av.getD (q.at1).toNat default) })
        else
         J0 q)))))))
theorem ahi (pb : Nat) (wa : Value) (mb : Nat) (q : PS) (av : List (List UInt8)) (sl : List Int) (Ri1 : List (Nat × Obj)) (hRi1 : w8 wa Ri1 av.length (av.flatMap j3)) (K : PS → (List Int) → Prop) (KP : Value → PS → (List Int) → Prop) (h : acl q av sl K KP) :
  j8 Tryd.prog 25 [zP pb] (Ri1 ++ []) [HA.blk pb (.cells (psC wa mb q).toArray 47 (0, 0)), cnt Tryd.prog 5 3 mb sl] (fun o => (∃ (d : PS) (D : List Int), K d D ∧ o = .ret (Value.tuple #[]) [HA.blk pb (.cells (psC wa mb d).toArray 47 (0, 0)), cnt Tryd.prog 5 3 mb D]) ∨ (∃ (pv : Value) (d : PS) (D : List Int), KP pv d D ∧ o = .pan [{ v := pv, recovered := false }] [HA.blk pb (.cells (psC wa mb d).toArray 47 (0, 0)), cnt Tryd.prog 5 3 mb D])) := by
 unfold acl at h
 refine g9 (n := 130) (L0 := [(0, zP pb)]) Tryd.func25 rfl rfl rfl rfl (fun w0 M Q hE => ?_)
 have hi1 : LIn ⟨130, [], w0, M, (Ri1 ++ [])⟩ wa av.length (av.flatMap j3) := LIn.mk hRi1 (fun p hp => by simp [hp])
 refine a7 (fun _ hK => ?_)
 refine a7 (fun _ hK_1' => ?_)
 refine w5 10 [] r5 (by kernel_rfl) rfl (fun T hT => ?_)
 refine fv (fun _ => OV.move rfl) ?_
 refine fv (fun _ => OV.nilCheck rfl) ?_
 refine fv (fun _ => OV.fieldAddr0 rfl u7) ?_
 refine fv (fun _ => OV.load rfl (At.own 0 rfl) rfl g8) ?_
 refine fv (fun _ => OV.move rfl) ?_
 refine fv (fun _ => OV.nilCheck rfl) ?_
 refine fv (fun _ => OV.fieldAddr0 rfl u6) ?_
 refine fv (fun _ => OV.fieldAddr rfl w3) ?_
 refine fv (fun _ => OV.load rfl (At.own 0 rfl) rfl f7) ?_
 refine fv (fun _ => OV.len rfl f8) ?_
 refine FL.weak (L' := fun γ => [(0, zP pb), (9, zI q.got), (15, zI (q.sops.length : Int))]) (fun γ => ⟨rfl, rfl, rfl, trivial⟩) (FL.nil (hT (fun γ => [(0, zP pb), (9, zI q.got), (15, zI (q.sops.length : Int))]) (fun γ => ?_)))
 refine wv (OV.eql rfl rfl) ?_
 refine WL.nil ?_
 refine kg (hK_1' [(0, zP pb), (16, zB (decide (q.got = (q.sops.length : Int))))] _ ?_)
 refine b9 (b := decide (q.got = (q.sops.length : Int))) rfl (fun hb => ?_) (fun hb => ?_)
 ·replace h := j6 h hb
  refine a6 ?_
  refine wm ?_
  refine wm ?_
  refine wv (OV.nilCheck rfl) ?_
  refine wv (OV.fieldAddr0 rfl k9) ?_
  refine wv (OV.load rfl (At.own 0 rfl) rfl g8) ?_
  refine WL.callS u4 rfl (s5 (zP pb) q.at1 ([101, 120, 116, 114, 97, 32, 111, 112, 101, 114, 97, 110, 100] : List UInt8)) rfl trivial rfl rfl (fun r H' hS => by cases hS) (fun c H' hS => ?_)
  cases hS
  exact hE.pan [0, 1] rfl rfl (.inr ⟨_, _, _, h, rfl⟩)
 ·replace h := j5 h hb
  refine b8 ?_
  refine kg (hK [(0, zP pb)] _ ?_)
  refine a7 (fun _ hK_2' => ?_)
  refine w5 8 [] r5 (by kernel_rfl) rfl (fun T_1' hT_1' => ?_)
  refine fv (fun _ => OV.move rfl) ?_
  refine fv (fun _ => OV.nilCheck rfl) ?_
  refine fv (fun _ => OV.fieldAddr0 rfl p3) ?_
  refine fv (fun _ => OV.load rfl (At.own 0 rfl) rfl s7) ?_
  refine fv (fun _ => OV.move rfl) ?_
  refine fv (fun _ => OV.nilCheck rfl) ?_
  refine fv (fun _ => OV.fieldAddr0 rfl k9) ?_
  refine fv (fun _ => OV.load rfl (At.own 0 rfl) rfl g8) ?_
  refine FL.weak (L' := fun γ => [(0, zP pb), (26, wa), (30, zI q.at1)]) (fun γ => ⟨rfl, rfl, rfl, trivial⟩) (FL.nil (hT_1' (fun γ => [(0, zP pb), (26, wa), (30, zI q.at1)]) (fun γ => ?_)))
  obtain ⟨o, h⟩ := h
  refine wv (OV.indexIn hi1 rfl rfl f0 o) ?_
  refine wv (OV.loadInE1 (f := j3) hi1 rfl i6 (by omega) rfl f7) ?_
  refine wA ?_
  refine WL.nil ?_
  refine kg (hK_2' [(0, zP pb), (2, st (av.getD (q.at1).toNat default))] _ ?_)
  refine a7 (fun _ hK_3' => ?_)
  refine a6 ?_
  refine wm ?_
  obtain ⟨o_1', h⟩ := h
  refine WL.call (A := []) abr rfl (aae (av.getD (q.at1).toNat default) o_1') rfl trivial rfl rfl ?_
  refine wm ?_
  refine wv (OV.extract 0 rfl rfl) ?_
  refine wv (OV.extract 1 rfl rfl) ?_
  refine wA ?_
  refine wA ?_
  refine WL.nil ?_
  refine kg (hK_3' [(0, zP pb), (2, st (av.getD (q.at1).toNat default)), (3, zI (j4 (av.getD (q.at1).toNat default))), (4, zB (l8 (av.getD (q.at1).toNat default)))] _ ?_)
  obtain ⟨J0, hJ, h⟩ := h
  refine q6 (X := PS) (fun σ => J0 σ) (fun σ => [(0, zP pb), (4, zB (l8 (av.getD (q.at1).toNat default)))]) (fun σ => [HA.blk pb (.cells (psC wa mb σ).toArray 47 (0, 0)), cnt Tryd.prog 5 3 mb sl]) ?_ (fun K0_11' hK_11' => ?_)
  ·rintro p hj
   replace h := hJ p hj
   show WC _ _ _ _ [(0, zP pb), (4, zB (l8 (av.getD (q.at1).toNat default)))] [HA.blk pb (.cells (psC wa mb p).toArray 47 (0, 0)), cnt Tryd.prog 5 3 mb sl]
   refine a7 (fun _ hK_12' => ?_)
   refine a7 (fun _ hK_13' => ?_)
   refine w5 9 [] r5 (by kernel_rfl) rfl (fun T_3' hT_3' => ?_)
   refine fv (fun _ => OV.move rfl) ?_
   refine fv (fun _ => OV.nilCheck rfl) ?_
   refine fv (fun _ => OV.fieldAddr0 rfl u6) ?_
   refine fv (fun _ => OV.fieldAddr rfl w3) ?_
   refine fv (fun _ => OV.load rfl (At.own 0 rfl) rfl f7) ?_
   refine fv (fun _ => OV.move rfl) ?_
   refine fv (fun _ => OV.nilCheck rfl) ?_
   refine fv (fun _ => OV.fieldAddr0 rfl u7) ?_
   refine fv (fun _ => OV.load rfl (At.own 0 rfl) rfl g8) ?_
   refine FL.weak (L' := fun γ => [(0, zP pb), (4, zB (l8 (av.getD (q.at1).toNat default))), (94, st p.sops), (98, zI p.got)]) (fun γ => ⟨rfl, rfl, rfl, rfl, trivial⟩) (FL.nil (hT_3' (fun γ => [(0, zP pb), (4, zB (l8 (av.getD (q.at1).toNat default))), (94, st p.sops), (98, zI p.got)]) (fun γ => ?_)))
   obtain ⟨o_3', h⟩ := h
   refine wv (OV.index rfl rfl f8 o_3') ?_
   refine wA ?_
   refine WL.nil ?_
   refine kg (hK_13' [(0, zP pb), (4, zB (l8 (av.getD (q.at1).toNat default))), (5, zU ((p.sops.getD p.got.toNat 0).toNat : Int))] _ ?_)
   refine a7 (fun _ hK_14' => ?_)
   refine a6 ?_
   refine wm ?_
   refine wv (OV.eql rfl rfl) ?_
   refine wm ?_
   refine WL.cut 3 [(0, zP pb), (4, zB (l8 (av.getD (q.at1).toNat default))), (105, zB ((decide (((p.sops.getD p.got.toNat 0).toNat : Int) = 97)) || (decide (((p.sops.getD p.got.toNat 0).toNat : Int) = 100))))] ?_ (fun K0_15' hK_15' => ?_)
   rotate_left
   ·refine WL.split (decide (((p.sops.getD p.got.toNat 0).toNat : Int) = 97)) (fun hb => ?_) (fun hb => ?_)
    ·refine WL.set 102 rfl (congrArg zB hb) ?_
     refine wk ?_
     refine wk ?_
     refine wv (OV.pickT rfl rfl) ?_
     refine WL.set 105 rfl (oT (v := decide (((p.sops.getD p.got.toNat 0).toNat : Int) = 100)) hb) ?_
     exact WL.end_ (kg hK_15')
    ·refine WL.set 102 rfl (congrArg zB hb) ?_
     refine wm ?_
     refine wv (OV.eql rfl rfl) ?_
     refine wv (OV.pickF rfl rfl) ?_
     refine WL.set 105 rfl (oF (v := decide (((p.sops.getD p.got.toNat 0).toNat : Int) = 100)) hb) ?_
     exact WL.end_ (kg hK_15')
   refine wm ?_
   refine WL.cut 3 [(0, zP pb), (109, zB (((decide (((p.sops.getD p.got.toNat 0).toNat : Int) = 97)) || (decide (((p.sops.getD p.got.toNat 0).toNat : Int) = 100))) && (!(l8 (av.getD (q.at1).toNat default)))))] ?_ (fun K0_16' hK_16' => ?_)
   rotate_left
   ·refine WL.split ((decide (((p.sops.getD p.got.toNat 0).toNat : Int) = 97)) || (decide (((p.sops.getD p.got.toNat 0).toNat : Int) = 100))) (fun hb => ?_) (fun hb => ?_)
    ·refine WL.set 106 rfl (congrArg zB hb) ?_
     refine wm ?_
     refine wv (OV.not rfl) ?_
     refine wv (OV.pickT rfl rfl) ?_
     refine WL.set 109 rfl (bT (v := !(l8 (av.getD (q.at1).toNat default))) hb) ?_
     exact WL.end_ (kg hK_16')
    ·refine WL.set 106 rfl (congrArg zB hb) ?_
     refine wk ?_
     refine wk ?_
     refine wv (OV.pickF rfl rfl) ?_
     refine WL.set 109 rfl (bF (v := !(l8 (av.getD (q.at1).toNat default))) hb) ?_
     exact WL.end_ (kg hK_16')
   refine WL.nil ?_
   refine kg (hK_14' [(0, zP pb), (109, zB (((decide (((p.sops.getD p.got.toNat 0).toNat : Int) = 97)) || (decide (((p.sops.getD p.got.toNat 0).toNat : Int) = 100))) && (!(l8 (av.getD (q.at1).toNat default)))))] _ ?_)
   refine b9 (b := ((decide (((p.sops.getD p.got.toNat 0).toNat : Int) = 97)) || (decide (((p.sops.getD p.got.toNat 0).toNat : Int) = 100))) && (!(l8 (av.getD (q.at1).toNat default)))) rfl (fun hb => ?_) (fun hb => ?_)
   ·replace h := j6 h hb
    refine a6 ?_
    refine wm ?_
    refine wm ?_
    refine wv (OV.nilCheck rfl) ?_
    refine wv (OV.fieldAddr0 rfl k9) ?_
    refine wv (OV.load rfl (At.own 0 rfl) rfl g8) ?_
    refine WL.callS u4 rfl (s5 (zP pb) p.at1 ([98, 97, 100, 32, 118, 97, 108, 117, 101] : List UInt8)) rfl trivial rfl rfl (fun r H' hS => by cases hS) (fun c H' hS => ?_)
    cases hS
    exact hE.pan [0, 1] rfl rfl (.inr ⟨_, _, _, h, rfl⟩)
   ·replace h := j5 h hb
    refine b8 ?_
    refine kg (hK_12' [(0, zP pb)] _ ?_)
    refine a7 (fun _ hK_17' => ?_)
    refine a6 ?_
    refine wm ?_
    refine wv (OV.nilCheck rfl) ?_
    refine wv (OV.fieldAddr0 rfl u7) ?_
    refine wv (OV.load rfl (At.own 0 rfl) rfl g8) ?_
    obtain ⟨o_6', h⟩ := h
    refine wv (OV.add rfl rfl o_6') ?_
    refine wv (OV.nilCheck rfl) ?_
    refine wv (OV.fieldAddr0 rfl u7) ?_
    refine WL.store (vs := [zI (p.got + 1)]) (cs' := psC wa mb ({ p with got := p.got + 1 })) 0 rfl rfl rfl rfl m8 (Nat.le_of_ble_eq_true rfl) rfl rfl rfl ?_
    refine WL.nil ?_
    refine kg (hK_17' [(0, zP pb)] _ ?_)
    refine a6 ?_
    refine wm ?_
    refine wv (OV.nilCheck rfl) ?_
    refine wv (OV.fieldAddr0 rfl k9) ?_
    refine wv (OV.load rfl (At.own 0 rfl) rfl g8) ?_
    obtain ⟨o_7', h⟩ := h
    refine wv (OV.add rfl rfl o_7') ?_
    refine wv (OV.nilCheck rfl) ?_
    refine wv (OV.fieldAddr0 rfl k9) ?_
    refine WL.store (vs := [zI ((({ p with got := p.got + 1 }).at1) + 1)]) (cs' := psC wa mb ({ { p with got := p.got + 1 } with at1 := (({ p with got := p.got + 1 }).at1) + 1 })) 0 rfl rfl rfl rfl m8 (Nat.le_of_ble_eq_true rfl) rfl rfl rfl ?_
    refine WL.nil ?_
    exact hE.norm [0, 1] rfl rfl (.inl ⟨_, _, h, rfl⟩) (l7.none rfl)
  ·skip
   refine a7 (fun _ hK_18' => ?_)
   refine w5 9 [] r5 (by kernel_rfl) rfl (fun T_4' hT_4' => ?_)
   refine fv (fun _ => OV.move rfl) ?_
   refine fv (fun _ => OV.nilCheck rfl) ?_
   refine fv (fun _ => OV.fieldAddr0 rfl u6) ?_
   refine fv (fun _ => OV.fieldAddr rfl w3) ?_
   refine fv (fun _ => OV.load rfl (At.own 0 rfl) rfl f7) ?_
   refine fv (fun _ => OV.move rfl) ?_
   refine fv (fun _ => OV.nilCheck rfl) ?_
   refine fv (fun _ => OV.fieldAddr0 rfl u7) ?_
   refine fv (fun _ => OV.load rfl (At.own 0 rfl) rfl g8) ?_
   refine FL.weak (L' := fun γ => [(0, zP pb), (2, st (av.getD (q.at1).toNat default)), (3, zI (j4 (av.getD (q.at1).toNat default))), (4, zB (l8 (av.getD (q.at1).toNat default))), (42, st q.sops), (46, zI q.got)]) (fun γ => ⟨rfl, rfl, rfl, rfl, rfl, rfl, trivial⟩) (FL.nil (hT_4' (fun γ => [(0, zP pb), (2, st (av.getD (q.at1).toNat default)), (3, zI (j4 (av.getD (q.at1).toNat default))), (4, zB (l8 (av.getD (q.at1).toNat default))), (42, st q.sops), (46, zI q.got)]) (fun γ => ?_)))
   obtain ⟨o_8', h⟩ := h
   refine wv (OV.index rfl rfl f8 o_8') ?_
   refine WL.nil ?_
   refine kg (hK_18' [(0, zP pb), (2, st (av.getD (q.at1).toNat default)), (3, zI (j4 (av.getD (q.at1).toNat default))), (4, zB (l8 (av.getD (q.at1).toNat default))), (47, zU ((q.sops.getD q.got.toNat 0).toNat : Int))] _ ?_)
   refine f9 ?_
   refine a7 (fun _ hK_19' => ?_)
   refine a6 ?_
   refine wv (OV.eql rfl rfl) ?_
   refine wA ?_
   refine WL.nil ?_
   refine kg (hK_19' [(0, zP pb), (2, st (av.getD (q.at1).toNat default)), (3, zI (j4 (av.getD (q.at1).toNat default))), (4, zB (l8 (av.getD (q.at1).toNat default))), (47, zU ((q.sops.getD q.got.toNat 0).toNat : Int)), (48, zB (decide (((q.sops.getD q.got.toNat 0).toNat : Int) = 108)))] _ ?_)
   refine b9 (b := decide (((q.sops.getD q.got.toNat 0).toNat : Int) = 108)) rfl (fun hb => ?_) (fun hb => ?_)
   ·replace h := j6 h hb
    refine a6 ?_
    refine wm ?_
    refine wm ?_
    refine wv (OV.nilCheck rfl) ?_
    refine wv (OV.fieldAddr0 rfl l9) ?_
    refine wv (OV.fieldAddr0 rfl aca) ?_
    refine WL.store (vs := [st (av.getD (q.at1).toNat default)]) (cs' := psC wa mb ({ q with lens := (av.getD (q.at1).toNat default) })) 0 rfl rfl rfl rfl r3 (Nat.le_of_ble_eq_true rfl) rfl rfl rfl ?_
    refine WL.nil ?_
    exact kh (hK_11' ({ q with lens := (av.getD (q.at1).toNat default) }) h) [0, 1]
   ·replace h := j5 h hb
    refine a7 (fun _ hK_20' => ?_)
    refine a6 ?_
    refine wv (OV.eql rfl rfl) ?_
    refine wA ?_
    refine WL.nil ?_
    refine kg (hK_20' [(0, zP pb), (2, st (av.getD (q.at1).toNat default)), (3, zI (j4 (av.getD (q.at1).toNat default))), (4, zB (l8 (av.getD (q.at1).toNat default))), (47, zU ((q.sops.getD q.got.toNat 0).toNat : Int)), (55, zB (decide (((q.sops.getD q.got.toNat 0).toNat : Int) = 118)))] _ ?_)
    refine b9 (b := decide (((q.sops.getD q.got.toNat 0).toNat : Int) = 118)) rfl (fun hb => ?_) (fun hb => ?_)
    ·replace h := j6 h hb
     refine a6 ?_
     refine wm ?_
     refine wm ?_
     refine wv (OV.nilCheck rfl) ?_
     refine wv (OV.fieldAddr0 rfl l9) ?_
     refine wv (OV.fieldAddr0 rfl ab5) ?_
     refine WL.store (vs := [st (av.getD (q.at1).toNat default)]) (cs' := psC wa mb ({ q with view := (av.getD (q.at1).toNat default) })) 0 rfl rfl rfl rfl r3 (Nat.le_of_ble_eq_true rfl) rfl rfl rfl ?_
     refine WL.nil ?_
     exact kh (hK_11' ({ q with view := (av.getD (q.at1).toNat default) }) h) [0, 1]
    ·replace h := j5 h hb
     refine a7 (fun _ hK_21' => ?_)
     refine a6 ?_
     refine wv (OV.eql rfl rfl) ?_
     refine wA ?_
     refine WL.nil ?_
     refine kg (hK_21' [(0, zP pb), (2, st (av.getD (q.at1).toNat default)), (3, zI (j4 (av.getD (q.at1).toNat default))), (4, zB (l8 (av.getD (q.at1).toNat default))), (47, zU ((q.sops.getD q.got.toNat 0).toNat : Int)), (62, zB (decide (((q.sops.getD q.got.toNat 0).toNat : Int) = 115)))] _ ?_)
     refine b9 (b := decide (((q.sops.getD q.got.toNat 0).toNat : Int) = 115)) rfl (fun hb => ?_) (fun hb => ?_)
     ·replace h := j6 h hb
      refine a6 ?_
      refine wm ?_
      refine wm ?_
      refine wv (OV.nilCheck rfl) ?_
      refine wv (OV.fieldAddr0 rfl l9) ?_
      refine wv (OV.fieldAddr0 rfl ab9) ?_
      refine WL.store (vs := [st (av.getD (q.at1).toNat default)]) (cs' := psC wa mb ({ q with src := (av.getD (q.at1).toNat default) })) 0 rfl rfl rfl rfl r3 (Nat.le_of_ble_eq_true rfl) rfl rfl rfl ?_
      refine WL.nil ?_
      exact kh (hK_11' ({ q with src := (av.getD (q.at1).toNat default) }) h) [0, 1]
     ·replace h := j5 h hb
      refine a7 (fun _ hK_22' => ?_)
      refine a6 ?_
      refine wv (OV.eql rfl rfl) ?_
      refine wA ?_
      refine WL.nil ?_
      refine kg (hK_22' [(0, zP pb), (2, st (av.getD (q.at1).toNat default)), (3, zI (j4 (av.getD (q.at1).toNat default))), (4, zB (l8 (av.getD (q.at1).toNat default))), (47, zU ((q.sops.getD q.got.toNat 0).toNat : Int)), (69, zB (decide (((q.sops.getD q.got.toNat 0).toNat : Int) = 116)))] _ ?_)
      refine b9 (b := decide (((q.sops.getD q.got.toNat 0).toNat : Int) = 116)) rfl (fun hb => ?_) (fun hb => ?_)
      ·replace h := j6 h hb
       refine a6 ?_
       refine wm ?_
       refine wm ?_
       refine wv (OV.nilCheck rfl) ?_
       refine wv (OV.fieldAddr0 rfl l9) ?_
       refine wv (OV.fieldAddr0 rfl abi) ?_
       refine WL.store (vs := [st (av.getD (q.at1).toNat default)]) (cs' := psC wa mb ({ q with text := (av.getD (q.at1).toNat default) })) 0 rfl rfl rfl rfl r3 (Nat.le_of_ble_eq_true rfl) rfl rfl rfl ?_
       refine WL.nil ?_
       exact kh (hK_11' ({ q with text := (av.getD (q.at1).toNat default) }) h) [0, 1]
      ·replace h := j5 h hb
       refine a7 (fun _ hK_23' => ?_)
       refine a6 ?_
       refine wv (OV.eql rfl rfl) ?_
       refine wA ?_
       refine WL.nil ?_
       refine kg (hK_23' [(0, zP pb), (3, zI (j4 (av.getD (q.at1).toNat default))), (4, zB (l8 (av.getD (q.at1).toNat default))), (47, zU ((q.sops.getD q.got.toNat 0).toNat : Int)), (76, zB (decide (((q.sops.getD q.got.toNat 0).toNat : Int) = 97)))] _ ?_)
       refine b9 (b := decide (((q.sops.getD q.got.toNat 0).toNat : Int) = 97)) rfl (fun hb => ?_) (fun hb => ?_)
       ·replace h := j6 h hb
        refine a6 ?_
        refine wm ?_
        refine wm ?_
        refine wv (OV.nilCheck rfl) ?_
        refine wv (OV.fieldAddr0 rfl l9) ?_
        refine wv (OV.fieldAddr0 rfl ab3) ?_
        refine WL.store (vs := [zI (j4 (av.getD (q.at1).toNat default))]) (cs' := psC wa mb ({ q with at0 := j4 (av.getD (q.at1).toNat default) })) 0 rfl rfl rfl rfl m8 (Nat.le_of_ble_eq_true rfl) rfl rfl rfl ?_
        refine WL.nil ?_
        exact kh (hK_11' ({ q with at0 := j4 (av.getD (q.at1).toNat default) }) h) [0, 1]
       ·replace h := j5 h hb
        refine a7 (fun _ hK_24' => ?_)
        refine a6 ?_
        refine wv (OV.eql rfl rfl) ?_
        refine wA ?_
        refine WL.nil ?_
        refine kg (hK_24' [(0, zP pb), (3, zI (j4 (av.getD (q.at1).toNat default))), (4, zB (l8 (av.getD (q.at1).toNat default))), (83, zB (decide (((q.sops.getD q.got.toNat 0).toNat : Int) = 100)))] _ ?_)
        refine b9 (b := decide (((q.sops.getD q.got.toNat 0).toNat : Int) = 100)) rfl (fun hb => ?_) (fun hb => ?_)
        ·replace h := j6 h hb
         refine a6 ?_
         refine wm ?_
         refine wm ?_
         refine wv (OV.nilCheck rfl) ?_
         refine wv (OV.fieldAddr0 rfl l9) ?_
         refine wv (OV.fieldAddr0 rfl acc) ?_
         refine WL.store (vs := [zI (j4 (av.getD (q.at1).toNat default))]) (cs' := psC wa mb ({ q with del := j4 (av.getD (q.at1).toNat default) })) 0 rfl rfl rfl rfl m8 (Nat.le_of_ble_eq_true rfl) rfl rfl rfl ?_
         refine WL.nil ?_
         exact kh (hK_11' ({ q with del := j4 (av.getD (q.at1).toNat default) }) h) [0, 1]
        ·replace h := j5 h hb
         refine b8 ?_
         exact kh (hK_11' q h) [0, 1]
theorem abs (l : Int) (a : Bs) (q : PS) : (y5 l a q).got = q.got ∧ (y5 l a q).at1 = q.at1 ∧ (y5 l a q).sops = q.sops := by
 unfold y5
 (repeat' split) <;> exact ⟨rfl, rfl, rfl⟩
theorem af3 (pb mb : Nat) (wa : Value) (av : List Bs) (q : PS) (sl : List Int) (h : am8 av q sl) (R : List (Nat × Obj)) (hR : w8 wa R av.length (av.flatMap j3)) :
  j8 Tryd.prog 25 [.pointer (some ⟨pb, 0, none⟩)] (R ++ []) [.blk pb (.cells (psC wa mb q).toArray 47 (0, 0)), cnt Tryd.prog 5 3 mb sl]
   (fun o => (∃ q2 sl2, amk av q sl q2 sl2 ∧ o = .ret (.tuple #[]) [.blk pb (.cells (psC wa mb q2).toArray 47 (0, 0)), cnt Tryd.prog 5 3 mb sl2]) ∨
    (∃ e why q2 sl2, alk av q sl e why ∧ o = .pan [{ v := x2 e why, recovered := false }] [.blk pb (.cells (psC wa mb q2).toArray 47 (0, 0)), cnt Tryd.prog 5 3 mb sl2])) := by
 refine (ahi pb wa mb q av sl R hR (fun q2 sl2 => amk av q sl q2 sl2) (fun v _ _ => ∃ e why, alk av q sl e why ∧ v = x2 e why) ?_).weak ?_
 ·obtain ⟨hA, i0, i1, g0, g1, g2⟩ := h
  have hA1 := hA.1
  unfold acl
  have hE : ∀ {e : Int} {why : Bs}, abg av q = .error (e, why) → ∃ e' why', alk av q sl e' why' ∧ x2 e why = x2 e' why' := fun h => ⟨_, _, h, rfl⟩
  by_cases k1 : q.got = q.sops.length
  ·rw [if_pos (by rw [decide_eq_true_eq]; exact k1)]
   exact hE (by unfold abg; rw [if_pos k1])
  rw [if_neg (by rw [decide_eq_true_eq]; exact k1)]
  generalize hl : (((q.sops.getD q.got.toNat 0).toNat : Nat) : Int) = l
  have hu : abg av q = (if (l = 97 ∨ l = 100) ∧ l8 (i7 av q.at1) = false then .error (q.at1, air) else .ok { y5 l (i7 av q.at1) q with got := q.got + 1, at1 := q.at1 + 1 }) := by
   unfold abg; rw [if_neg k1]; simp only [hl]
  refine ⟨⟨i0, i1⟩, hA.at q.at1, fun p => p = y5 l (i7 av q.at1) q, ?_, ⟨g0, by omega⟩, ?_⟩
  ·rintro p rfl
   obtain ⟨e1, e2, e3⟩ := abs l (i7 av q.at1) q
   rw [e1, e3, hl]
   refine ⟨⟨g0, by omega⟩, ?_⟩
   by_cases k2 : (l = 97 ∨ l = 100) ∧ l8 (i7 av q.at1) = false
   ·rw [if_pos (by
     rw [show l8 (av.getD (q.at1).toNat default) = false from k2.2]
     rcases k2.1 with h | h <;> simp [h])]
    rw [e2]
    exact hE (by rw [hu, if_pos k2])
   ·rw [if_neg (by
     rw [show l8 (av.getD (q.at1).toNat default) = l8 (i7 av q.at1) from rfl]
     simp only [Bool.and_eq_true, Bool.or_eq_true, decide_eq_true_eq, Bool.not_eq_true', not_and]
     intro h1 h2; exact k2 ⟨h1, h2⟩)]
    have e2' : ({ y5 l (i7 av q.at1) q with got := q.got + 1 } : PS).at1 = q.at1 := e2
    refine ⟨by unfold I64; omega, by rw [e2']; unfold I64; omega, ?_⟩
    refine ⟨?_, rfl⟩
    rw [hu, if_neg k2, e2']
    simp only [e3]
  ·rw [show av.getD (q.at1).toNat default = i7 av q.at1 from rfl]
   unfold y5
   by_cases c1 : l = 108
   ·rw [if_pos (by simpa using c1), if_pos c1]
   rw [if_neg (by simpa using c1), if_neg c1]
   by_cases c2 : l = 118
   ·rw [if_pos (by simpa using c2), if_pos c2]
   rw [if_neg (by simpa using c2), if_neg c2]
   by_cases c3 : l = 115
   ·rw [if_pos (by simpa using c3), if_pos c3]
   rw [if_neg (by simpa using c3), if_neg c3]
   by_cases c4 : l = 116
   ·rw [if_pos (by simpa using c4), if_pos c4]
   rw [if_neg (by simpa using c4), if_neg c4]
   by_cases c5 : l = 97
   ·rw [if_pos (by simpa using c5), if_pos c5]
   rw [if_neg (by simpa using c5), if_neg c5]
   by_cases c6 : l = 100
   ·rw [if_pos (by simpa using c6), if_pos c6]
   rw [if_neg (by simpa using c6), if_neg c6]
 ·rintro o (⟨q2, sl2, h, rfl⟩ | ⟨v, q2, sl2, ⟨e, why, h, rfl⟩, rfl⟩)
  ·exact .inl ⟨q2, sl2, h, rfl⟩
  ·exact .inr ⟨e, why, q2, sl2, h, rfl⟩
def goM (av : List Bs) : Nat → Bool → PS → List Int → Except (Int × Bs) PS
 | 0, _, q, _ => if q.got < q.sops.length then .error (av.length, acw) else .ok q
 | f + 1, plain, q, sl =>
  if q.at1 < av.length then
   if (!plain) = true ∧ i7 av q.at1 = [45, 45] then goM av f true { q with at1 := q.at1 + 1 } sl
   else if (!plain) = true ∧ 1 < (i7 av q.at1).length ∧ ((i7 av q.at1).getD 0 0).toNat = 45 then
    match abf av q sl with
    | .error e => .error e
    | .ok (q2, sl2) => goM av f plain q2 sl2
   else
    match abg av q with
    | .error e => .error e
    | .ok q2 => goM av f plain q2 sl
  else if q.got < q.sops.length then .error (av.length, acw) else .ok q
def q9 (av : List Bs) (q : PS) : PS :=
 let nm := i7 av 0
 let s := a8 nm
 let p : PS := { q with sname := s.1, sops := s.2.1, sopts := s.2.2, name := nm, budget := 1024, at1 := 1 }
 if nm = [119, 111, 114, 100, 115] then { p with count := 10 } else if nm = [115, 116, 114, 101, 97, 109] then { p with chunk := 16 } else p
def w9 (av : List Bs) (q : PS) : Except (Int × Bs) PS :=
 if av.length = 0 then .error (0, and)
 else if u2 (i7 av 0) = false then .error (0, ak1)
 else goM av av.length false (q9 av q) []
def anc (av : List Bs) (q : PS) (sl : List Int) : Prop := AvB av ∧ q.got = 0 ∧ sl = []
def amm (av : List Bs) (q : PS) (_sl : List Int) (q2 : PS) (_sl2 : List Int) : Prop := w9 av q = .ok q2
def alv (av : List Bs) (q : PS) (_sl : List Int) (e : Int) (why : Bs) : Prop := w9 av q = .error (e, why)
def ahn (q : PS) (av : List (List UInt8)) (sl : List Int) (K : PS → (List Int) → Prop) (KP : Value → PS → (List Int) → Prop) : Prop :=
 (if (decide ((av.length : Int) = 0)) = true then
  KP (Value.iface 28 (Value.agg [zI 140, zI 0, st ([110, 111, 32, 99, 111, 109, 109, 97, 110, 100] : List UInt8)].toArray)) q sl
 else
  (0 ≤ (0 : Int) ∧ (0 : Int) < (av.length : Int)) ∧
  (if (!(u2 (av.getD ((0 : Int)).toNat default))) = true then
   KP (Value.iface 28 (Value.agg [zI 140, zI 0, st ([117, 110, 107, 110, 111, 119, 110, 32, 99, 111, 109, 109, 97, 110, 100] : List UInt8)].toArray)) ({ q with sname := (a8 (av.getD ((0 : Int)).toNat default)).1, sops := (a8 (av.getD ((0 : Int)).toNat default)).2.1, sopts := (a8 (av.getD ((0 : Int)).toNat default)).2.2 }) sl
  else
   (0 ≤ (0 : Int) ∧ (0 : Int) < (av.length : Int)) ∧
   ∃ (J0 : PS → Prop),
    (∀ (p : PS), J0 p →
     ∃ (Inv : Bool → PS → (List Int) → Prop) (mu : Bool → PS → (List Int) → Nat),
      Inv false ({ p with at1 := 1 }) sl ∧ ∀ (plain_1' : Bool) (p_2' : PS) (c_1' : List Int), Inv plain_1' p_2' c_1' →
       (if (decide (p_2'.at1 < (av.length : Int))) = true then
        (0 ≤ p_2'.at1 ∧ p_2'.at1 < (av.length : Int)) ∧
        (if ((!plain_1') && (decide ((av.getD (p_2'.at1).toNat default) = ([45, 45] : List UInt8)))) = true then
         (I64 (p_2'.at1 + 1)) ∧
         Inv true ({ p_2' with at1 := p_2'.at1 + 1 }) c_1' ∧ mu true ({ p_2' with at1 := p_2'.at1 + 1 }) c_1' < mu plain_1' p_2' c_1'
        else
         (((!plain_1') && (decide (1 < ((av.getD (p_2'.at1).toNat default).length : Int)))) = true → (0 ≤ (0 : Int) ∧ (0 : Int) < (av.getD (p_2'.at1).toNat default).length)) ∧
         (if (((!plain_1') && (decide (1 < ((av.getD (p_2'.at1).toNat default).length : Int)))) && (decide ((((av.getD (p_2'.at1).toNat default).getD (0 : Int).toNat 0).toNat : Int) = 45))) = true then
          (ana av p_2' c_1') ∧
          (∀ (q_9' : PS) (sl_9' : List Int), amn av p_2' c_1'  q_9' sl_9' →
           Inv plain_1' q_9' sl_9' ∧ mu plain_1' q_9' sl_9' < mu plain_1' p_2' c_1') ∧
          (∀ (at0_4' : Int) (why_4' : List UInt8) (q_10' : PS) (sl_10' : List Int), aln av p_2' c_1'  at0_4' why_4' →
           KP (Value.iface 28 (Value.agg [zI 140, zI at0_4', st why_4'].toArray)) q_10' sl_10')
         else
          (am8 av p_2' c_1') ∧
          (∀ (q_11' : PS) (sl_11' : List Int), amk av p_2' c_1'  q_11' sl_11' →
           Inv plain_1' q_11' sl_11' ∧ mu plain_1' q_11' sl_11' < mu plain_1' p_2' c_1') ∧
          (∀ (at0_5' : Int) (why_5' : List UInt8) (q_12' : PS) (sl_12' : List Int), alk av p_2' c_1'  at0_5' why_5' →
           KP (Value.iface 28 (Value.agg [zI 140, zI at0_5', st why_5'].toArray)) q_12' sl_12')))
       else
        (if (decide (p_2'.got < (p_2'.sops.length : Int))) = true then
         KP (Value.iface 28 (Value.agg [zI 140, zI (av.length : Int), st ([109, 105, 115, 115, 105, 110, 103, 32, 111, 112, 101, 114, 97, 110, 100] : List UInt8)].toArray)) p_2' c_1'
        else
         K p_2' c_1'))) ∧
    (if (decide (({ { { q with sname := (a8 (av.getD ((0 : Int)).toNat default)).1, sops := (a8 (av.getD ((0 : Int)).toNat default)).2.1, sopts := (a8 (av.getD ((0 : Int)).toNat default)).2.2 } with name := (av.getD ((0 : Int)).toNat default) } with budget := 1024 }).name = ([119, 111, 114, 100, 115] : List UInt8))) = true then
     J0 ({ { { { q with sname := (a8 (av.getD ((0 : Int)).toNat default)).1, sops := (a8 (av.getD ((0 : Int)).toNat default)).2.1, sopts := (a8 (av.getD ((0 : Int)).toNat default)).2.2 } with name := (av.getD ((0 : Int)).toNat default) } with budget := 1024 } with count := 10 })
    else
     (if (decide (({ { { q with sname := (a8 (av.getD ((0 : Int)).toNat default)).1, sops := (a8 (av.getD ((0 : Int)).toNat default)).2.1, sopts := (a8 (av.getD ((0 : Int)).toNat default)).2.2 } with name := (av.getD ((0 : Int)).toNat default) } with budget := 1024 }).name = ([115, 116, 114, 101, 97, 109] : List UInt8))) = true then
      J0 ({ { { { q with sname := (a8 (av.getD ((0 : Int)).toNat default)).1, sops := (a8 (av.getD ((0 : Int)).toNat default)).2.1, sopts := (a8 (av.getD ((0 : Int)).toNat default)).2.2 } with name := (av.getD ((0 : Int)).toNat default) } with budget := 1024 } with chunk := 16 })
     else
      J0 ({ { { q with sname := (a8 (av.getD ((0 : Int)).toNat default)).1, sops := (a8 (av.getD ((0 : Int)).toNat default)).2.1, sopts := (a8 (av.getD ((0 : Int)).toNat default)).2.2 } with name := (av.getD ((0 : Int)).toNat default) } with budget := 1024 })))))
theorem aml (pb : Nat) (wa : Value) (mb : Nat) (te : TypeId) (fre : Nat × Nat) (q : PS) (av : List (List UInt8)) (sl : List Int) (Ri1 : List (Nat × Obj)) (hRi1 : w8 wa Ri1 av.length (av.flatMap j3)) (K : PS → (List Int) → Prop) (KP : Value → PS → (List Int) → Prop) (h : ahn q av sl K KP) :
  j8 Tryd.prog 15 [zP pb] (Ri1 ++ [(0, .cells [st ([99, 104, 101, 99, 107] : List UInt8), st ([108] : List UInt8), st ([98] : List UInt8), st ([99, 111, 100, 101] : List UInt8), st ([108] : List UInt8), st ([98] : List UInt8), st ([119, 111, 114, 100, 115] : List UInt8), st ([108] : List UInt8), st ([98, 110] : List UInt8), st ([103, 101, 116] : List UInt8), st ([108, 115] : List UInt8), st ([98, 111] : List UInt8), st ([99, 97, 110, 111, 110] : List UInt8), st ([108, 115] : List UInt8), st ([98, 111] : List UInt8), st ([119, 104, 101, 114, 101] : List UInt8), st ([108, 115] : List UInt8), st ([98] : List UInt8), st ([115, 116, 114, 101, 97, 109] : List UInt8), st ([108, 115] : List UInt8), st ([98, 99] : List UInt8), st ([99, 114, 101, 97, 116, 101] : List UInt8), st ([108, 118] : List UInt8), st ([98, 111] : List UInt8), st ([112, 117, 116] : List UInt8), st ([108, 118, 115] : List UInt8), st ([98, 111] : List UInt8), st ([101, 100, 105, 116] : List UInt8), st ([108, 115, 97, 100, 116] : List UInt8), st ([98, 111] : List UInt8)].toArray te fre)]) [HA.blk pb (.cells (psC wa mb q).toArray 47 (0, 0)), cnt Tryd.prog 5 3 mb sl] (fun o => (∃ (d : PS) (D : List Int), K d D ∧ o = .ret (Value.tuple #[]) [HA.blk pb (.cells (psC wa mb d).toArray 47 (0, 0)), cnt Tryd.prog 5 3 mb D]) ∨ (∃ (pv : Value) (d : PS) (D : List Int), KP pv d D ∧ o = .pan [{ v := pv, recovered := false }] [HA.blk pb (.cells (psC wa mb d).toArray 47 (0, 0)), cnt Tryd.prog 5 3 mb D])) := by
 unfold ahn at h
 refine g9 (n := 133) (L0 := [(0, zP pb)]) Tryd.func15 rfl rfl rfl rfl (fun w0 M Q hE => ?_)
 have hi1 : LIn ⟨133, [], w0, M, (Ri1 ++ [(0, .cells [st ([99, 104, 101, 99, 107] : List UInt8), st ([108] : List UInt8), st ([98] : List UInt8), st ([99, 111, 100, 101] : List UInt8), st ([108] : List UInt8), st ([98] : List UInt8), st ([119, 111, 114, 100, 115] : List UInt8), st ([108] : List UInt8), st ([98, 110] : List UInt8), st ([103, 101, 116] : List UInt8), st ([108, 115] : List UInt8), st ([98, 111] : List UInt8), st ([99, 97, 110, 111, 110] : List UInt8), st ([108, 115] : List UInt8), st ([98, 111] : List UInt8), st ([119, 104, 101, 114, 101] : List UInt8), st ([108, 115] : List UInt8), st ([98] : List UInt8), st ([115, 116, 114, 101, 97, 109] : List UInt8), st ([108, 115] : List UInt8), st ([98, 99] : List UInt8), st ([99, 114, 101, 97, 116, 101] : List UInt8), st ([108, 118] : List UInt8), st ([98, 111] : List UInt8), st ([112, 117, 116] : List UInt8), st ([108, 118, 115] : List UInt8), st ([98, 111] : List UInt8), st ([101, 100, 105, 116] : List UInt8), st ([108, 115, 97, 100, 116] : List UInt8), st ([98, 111] : List UInt8)].toArray te fre)])⟩ wa av.length (av.flatMap j3) := LIn.mk hRi1 (fun p hp => by simp [hp])
 refine a7 (fun _ hK => ?_)
 refine a7 (fun _ hK_1' => ?_)
 refine a6 ?_
 refine wm ?_
 refine wv (OV.nilCheck rfl) ?_
 refine wv (OV.fieldAddr0 rfl p3) ?_
 refine wv (OV.load rfl (At.own 0 rfl) rfl s7) ?_
 refine wv (OV.lenIn hi1 rfl f0) ?_
 refine wv (OV.eql rfl rfl) ?_
 refine WL.nil ?_
 refine kg (hK_1' [(0, zP pb), (10, zB (decide ((av.length : Int) = 0)))] _ ?_)
 refine b9 (b := decide ((av.length : Int) = 0)) rfl (fun hb => ?_) (fun hb => ?_)
 ·replace h := j6 h hb
  refine a6 ?_
  refine wm ?_
  refine WL.callS u4 rfl (s5 (zP pb) 0 ([110, 111, 32, 99, 111, 109, 109, 97, 110, 100] : List UInt8)) rfl trivial rfl rfl (fun r H' hS => by cases hS) (fun c H' hS => ?_)
  cases hS
  exact hE.pan [0, 1] rfl rfl (.inr ⟨_, _, _, h, rfl⟩)
 ·replace h := j5 h hb
  refine b8 ?_
  refine kg (hK [(0, zP pb)] _ ?_)
  refine a7 (fun _ hK_2' => ?_)
  refine a6 ?_
  refine wA ?_
  refine WL.nil ?_
  refine kg (hK_2' [(0, zP pb)] _ ?_)
  refine a7 (fun _ hK_3' => ?_)
  refine a7 (fun _ hK_4' => ?_)
  refine a6 ?_
  refine wm ?_
  refine wm ?_
  refine wv (OV.nilCheck rfl) ?_
  refine wv (OV.fieldAddr0 rfl p3) ?_
  refine wv (OV.load rfl (At.own 0 rfl) rfl s7) ?_
  obtain ⟨o, h⟩ := h
  refine wv (OV.indexIn hi1 rfl rfl f0 o) ?_
  refine wv (OV.loadInE1 (f := j3) hi1 rfl i6 (by omega) rfl f7) ?_
  refine WL.call (A := []) ae6 rfl (ae2 te fre (av.getD ((0 : Int)).toNat default)) rfl ⟨.inr (by simp), trivial⟩ rfl rfl ?_
  refine wm ?_
  refine wv (OV.extract 0 rfl rfl) ?_
  refine wv (OV.extract 1 rfl rfl) ?_
  refine wv (OV.nilCheck rfl) ?_
  refine wv (OV.fieldAddr0 rfl u6) ?_
  refine WL.store (vs := [st ((a8 (av.getD ((0 : Int)).toNat default)).1), st ((a8 (av.getD ((0 : Int)).toNat default)).2.1), st ((a8 (av.getD ((0 : Int)).toNat default)).2.2)]) (cs' := psC wa mb ({ q with sname := (a8 (av.getD ((0 : Int)).toNat default)).1, sops := (a8 (av.getD ((0 : Int)).toNat default)).2.1, sopts := (a8 (av.getD ((0 : Int)).toNat default)).2.2 })) 0 rfl rfl rfl rfl p6 (Nat.le_of_ble_eq_true rfl) rfl rfl rfl ?_
  refine wA ?_
  refine WL.nil ?_
  refine kg (hK_4' [(0, zP pb), (2, zB (u2 (av.getD ((0 : Int)).toNat default)))] _ ?_)
  refine a7 (fun _ hK_5' => ?_)
  refine a6 ?_
  refine wm ?_
  refine wv (OV.not rfl) ?_
  refine WL.nil ?_
  refine kg (hK_5' [(0, zP pb), (27, zB (!(u2 (av.getD ((0 : Int)).toNat default))))] _ ?_)
  refine b9 (b := !(u2 (av.getD ((0 : Int)).toNat default))) rfl (fun hb => ?_) (fun hb => ?_)
  ·replace h := j6 h hb
   refine a6 ?_
   refine wm ?_
   refine WL.callS u4 rfl (s5 (zP pb) 0 ([117, 110, 107, 110, 111, 119, 110, 32, 99, 111, 109, 109, 97, 110, 100] : List UInt8)) rfl trivial rfl rfl (fun r H' hS => by cases hS) (fun c H' hS => ?_)
   cases hS
   exact hE.pan [0, 1] rfl rfl (.inr ⟨_, _, _, h, rfl⟩)
  ·replace h := j5 h hb
   refine b8 ?_
   refine kg (hK_3' [(0, zP pb)] _ ?_)
   refine a7 (fun _ hK_6' => ?_)
   refine a6 ?_
   refine wm ?_
   refine wm ?_
   refine wv (OV.nilCheck rfl) ?_
   refine wv (OV.fieldAddr0 rfl p3) ?_
   refine wv (OV.load rfl (At.own 0 rfl) rfl s7) ?_
   obtain ⟨o_1', h⟩ := h
   refine wv (OV.indexIn hi1 rfl rfl f0 o_1') ?_
   refine wv (OV.loadInE1 (f := j3) hi1 rfl i6 (by omega) rfl f7) ?_
   refine wv (OV.nilCheck rfl) ?_
   refine wv (OV.fieldAddr0 rfl l9) ?_
   refine wv (OV.fieldAddr0 rfl x6) ?_
   refine WL.store (vs := [st (av.getD ((0 : Int)).toNat default)]) (cs' := psC wa mb ({ { q with sname := (a8 (av.getD ((0 : Int)).toNat default)).1, sops := (a8 (av.getD ((0 : Int)).toNat default)).2.1, sopts := (a8 (av.getD ((0 : Int)).toNat default)).2.2 } with name := (av.getD ((0 : Int)).toNat default) })) 0 rfl rfl rfl rfl r3 (Nat.le_of_ble_eq_true rfl) rfl rfl rfl ?_
   refine WL.nil ?_
   refine kg (hK_6' [(0, zP pb)] _ ?_)
   refine a7 (fun _ hK_7' => ?_)
   refine a6 ?_
   refine wm ?_
   refine wv (OV.nilCheck rfl) ?_
   refine wv (OV.fieldAddr0 rfl l9) ?_
   refine wv (OV.fieldAddr0 rfl aai) ?_
   refine WL.store (vs := [zI 1024]) (cs' := psC wa mb ({ { { q with sname := (a8 (av.getD ((0 : Int)).toNat default)).1, sops := (a8 (av.getD ((0 : Int)).toNat default)).2.1, sopts := (a8 (av.getD ((0 : Int)).toNat default)).2.2 } with name := (av.getD ((0 : Int)).toNat default) } with budget := 1024 })) 0 rfl rfl rfl rfl m8 (Nat.le_of_ble_eq_true rfl) rfl rfl rfl ?_
   refine WL.nil ?_
   refine kg (hK_7' [(0, zP pb)] _ ?_)
   obtain ⟨J0, hJ, h⟩ := h
   refine q6 (X := PS) (fun σ => J0 σ) (fun σ => [(0, zP pb)]) (fun σ => [HA.blk pb (.cells (psC wa mb σ).toArray 47 (0, 0)), cnt Tryd.prog 5 3 mb sl]) ?_ (fun K0_11' hK_11' => ?_)
   ·rintro p hj
    replace h := hJ p hj
    show WC _ _ _ _ [(0, zP pb)] [HA.blk pb (.cells (psC wa mb p).toArray 47 (0, 0)), cnt Tryd.prog 5 3 mb sl]
    refine a7 (fun _ hK_12' => ?_)
    refine a6 ?_
    refine wA ?_
    refine WL.nil ?_
    refine kg (hK_12' [(0, zP pb), (3, zB false)] _ ?_)
    refine a7 (fun _ hK_13' => ?_)
    refine a7 (fun _ hK_14' => ?_)
    refine a6 ?_
    refine wm ?_
    refine wv (OV.nilCheck rfl) ?_
    refine wv (OV.fieldAddr0 rfl k9) ?_
    refine WL.store (vs := [zI 1]) (cs' := psC wa mb ({ p with at1 := 1 })) 0 rfl rfl rfl rfl m8 (Nat.le_of_ble_eq_true rfl) rfl rfl rfl ?_
    refine WL.nil ?_
    refine kg (hK_14' [(0, zP pb), (3, zB false)] _ ?_)
    refine f9 ?_
    obtain ⟨Inv, mu, h0, hr⟩ := h
    refine x1 (S := Bool × PS × (List Int)) (fun σ => Inv σ.1 σ.2.1 σ.2.2) (fun σ => mu σ.1 σ.2.1 σ.2.2) (fun σ => [(0, zP pb), (3, zB σ.1)]) (fun σ => [HA.blk pb (.cells (psC wa mb σ.2.1).toArray 47 (0, 0)), cnt Tryd.prog 5 3 mb σ.2.2]) (false, { p with at1 := 1 }, sl) h0 ⟨rfl, rfl, trivial⟩ rfl ?_
    rintro ⟨plain_1', p_2', c_1'⟩ hi K0_31' hK_31'
    have h := hr plain_1' p_2' c_1' hi
    show WC _ _ _ _ [(0, zP pb), (3, zB plain_1')] [HA.blk pb (.cells (psC wa mb p_2').toArray 47 (0, 0)), cnt Tryd.prog 5 3 mb c_1']
    refine a7 (fun _ hK_32' => ?_)
    refine a7 (fun _ hK_33' => ?_)
    refine w5 9 [] r5 (by kernel_rfl) rfl (fun T_4' hT_4' => ?_)
    refine fv (fun _ => OV.move rfl) ?_
    refine fv (fun _ => OV.nilCheck rfl) ?_
    refine fv (fun _ => OV.fieldAddr0 rfl k9) ?_
    refine fv (fun _ => OV.load rfl (At.own 0 rfl) rfl g8) ?_
    refine fv (fun _ => OV.move rfl) ?_
    refine fv (fun _ => OV.nilCheck rfl) ?_
    refine fv (fun _ => OV.fieldAddr0 rfl p3) ?_
    refine fv (fun _ => OV.load rfl (At.own 0 rfl) rfl s7) ?_
    refine fv (fun _ => OV.lenIn hi1 rfl f0) ?_
    refine FL.weak (L' := fun γ => [(0, zP pb), (3, zB plain_1'), (67, zI p_2'.at1), (72, zI (av.length : Int))]) (fun γ => ⟨rfl, rfl, rfl, rfl, trivial⟩) (FL.nil (hT_4' (fun γ => [(0, zP pb), (3, zB plain_1'), (67, zI p_2'.at1), (72, zI (av.length : Int))]) (fun γ => ?_)))
    refine wv (OV.lss rfl rfl) ?_
    refine WL.nil ?_
    refine kg (hK_33' [(0, zP pb), (3, zB plain_1'), (73, zB (decide (p_2'.at1 < (av.length : Int))))] _ ?_)
    refine b9 (b := decide (p_2'.at1 < (av.length : Int))) rfl (fun hb => ?_) (fun hb => ?_)
    ·replace h := j6 h hb
     refine b8 ?_
     refine kg (hK_32' [(0, zP pb), (3, zB plain_1')] _ ?_)
     refine f9 ?_
     refine a7 (fun _ hK_34' => ?_)
     refine w5 8 [] r5 (by kernel_rfl) rfl (fun T_5' hT_5' => ?_)
     refine fv (fun _ => OV.move rfl) ?_
     refine fv (fun _ => OV.nilCheck rfl) ?_
     refine fv (fun _ => OV.fieldAddr0 rfl p3) ?_
     refine fv (fun _ => OV.load rfl (At.own 0 rfl) rfl s7) ?_
     refine fv (fun _ => OV.move rfl) ?_
     refine fv (fun _ => OV.nilCheck rfl) ?_
     refine fv (fun _ => OV.fieldAddr0 rfl k9) ?_
     refine fv (fun _ => OV.load rfl (At.own 0 rfl) rfl g8) ?_
     refine FL.weak (L' := fun γ => [(0, zP pb), (3, zB plain_1'), (77, wa), (81, zI p_2'.at1)]) (fun γ => ⟨rfl, rfl, rfl, rfl, trivial⟩) (FL.nil (hT_5' (fun γ => [(0, zP pb), (3, zB plain_1'), (77, wa), (81, zI p_2'.at1)]) (fun γ => ?_)))
     obtain ⟨o_16', h⟩ := h
     refine wv (OV.indexIn hi1 rfl rfl f0 o_16') ?_
     refine wv (OV.loadInE1 (f := j3) hi1 rfl i6 (by omega) rfl f7) ?_
     refine wA ?_
     refine WL.nil ?_
     refine kg (hK_34' [(0, zP pb), (3, zB plain_1'), (4, st (av.getD (p_2'.at1).toNat default))] _ ?_)
     refine f9 ?_
     refine a7 (fun _ hK_35' => ?_)
     refine a6 ?_
     refine wm ?_
     refine wv (OV.not rfl) ?_
     refine wm ?_
     refine WL.cut 3 [(0, zP pb), (3, zB plain_1'), (4, st (av.getD (p_2'.at1).toNat default)), (92, zB ((!plain_1') && (decide ((av.getD (p_2'.at1).toNat default) = ([45, 45] : List UInt8)))))] ?_ (fun K0_36' hK_36' => ?_)
     rotate_left
     ·refine WL.split (!plain_1') (fun hb => ?_) (fun hb => ?_)
      ·refine WL.set 89 rfl (congrArg zB hb) ?_
       refine wm ?_
       refine wv (OV.eqlS rfl rfl) ?_
       refine wv (OV.pickT rfl rfl) ?_
       refine WL.set 92 rfl (bT (v := decide ((av.getD (p_2'.at1).toNat default) = ([45, 45] : List UInt8))) hb) ?_
       exact WL.end_ (kg hK_36')
      ·refine WL.set 89 rfl (congrArg zB hb) ?_
       refine wk ?_
       refine wk ?_
       refine wv (OV.pickF rfl rfl) ?_
       refine WL.set 92 rfl (bF (v := decide ((av.getD (p_2'.at1).toNat default) = ([45, 45] : List UInt8))) hb) ?_
       exact WL.end_ (kg hK_36')
     refine wA ?_
     refine WL.nil ?_
     refine kg (hK_35' [(0, zP pb), (3, zB plain_1'), (4, st (av.getD (p_2'.at1).toNat default)), (86, zB ((!plain_1') && (decide ((av.getD (p_2'.at1).toNat default) = ([45, 45] : List UInt8)))))] _ ?_)
     refine b9 (b := (!plain_1') && (decide ((av.getD (p_2'.at1).toNat default) = ([45, 45] : List UInt8)))) rfl (fun hb => ?_) (fun hb => ?_)
     ·replace h := j6 h hb
      refine a7 (fun _ hK_37' => ?_)
      refine a6 ?_
      refine wA ?_
      refine WL.nil ?_
      refine kg (hK_37' [(0, zP pb), (3, zB true)] _ ?_)
      refine a6 ?_
      refine wm ?_
      refine wv (OV.nilCheck rfl) ?_
      refine wv (OV.fieldAddr0 rfl k9) ?_
      refine wv (OV.load rfl (At.own 0 rfl) rfl g8) ?_
      obtain ⟨o_18', h⟩ := h
      refine wv (OV.add rfl rfl o_18') ?_
      refine wv (OV.nilCheck rfl) ?_
      refine wv (OV.fieldAddr0 rfl k9) ?_
      refine WL.store (vs := [zI (p_2'.at1 + 1)]) (cs' := psC wa mb ({ p_2' with at1 := p_2'.at1 + 1 })) 0 rfl rfl rfl rfl m8 (Nat.le_of_ble_eq_true rfl) rfl rfl rfl ?_
      refine WL.nil ?_
      exact kh (hK_31' (true, { p_2' with at1 := p_2'.at1 + 1 }, c_1') h.1 h.2) [0, 1]
     ·replace h := j5 h hb
      refine a7 (fun _ hK_38' => ?_)
      refine a6 ?_
      refine wm ?_
      refine wv (OV.not rfl) ?_
      refine wm ?_
      refine WL.cut 4 [(0, zP pb), (3, zB plain_1'), (4, st (av.getD (p_2'.at1).toNat default)), (107, zB ((!plain_1') && (decide (1 < ((av.getD (p_2'.at1).toNat default).length : Int)))))] ?_ (fun K0_39' hK_39' => ?_)
      rotate_left
      ·refine WL.split (!plain_1') (fun hb => ?_) (fun hb => ?_)
       ·refine WL.set 103 rfl (congrArg zB hb) ?_
        refine wm ?_
        refine wv (OV.len rfl f8) ?_
        refine wv (OV.gtr rfl rfl) ?_
        refine wv (OV.pickT rfl rfl) ?_
        refine WL.set 107 rfl (bT (v := decide (1 < ((av.getD (p_2'.at1).toNat default).length : Int))) hb) ?_
        exact WL.end_ (kg hK_39')
       ·refine WL.set 103 rfl (congrArg zB hb) ?_
        refine wk ?_
        refine wk ?_
        refine wk ?_
        refine wv (OV.pickF rfl rfl) ?_
        refine WL.set 107 rfl (bF (v := decide (1 < ((av.getD (p_2'.at1).toNat default).length : Int))) hb) ?_
        exact WL.end_ (kg hK_39')
      refine wm ?_
      obtain ⟨o_21', h⟩ := h
      refine WL.cut 4 [(0, zP pb), (3, zB plain_1'), (112, zB (((!plain_1') && (decide (1 < ((av.getD (p_2'.at1).toNat default).length : Int)))) && (decide ((((av.getD (p_2'.at1).toNat default).getD (0 : Int).toNat 0).toNat : Int) = 45))))] ?_ (fun K0_40' hK_40' => ?_)
      rotate_left
      ·refine WL.split ((!plain_1') && (decide (1 < ((av.getD (p_2'.at1).toNat default).length : Int)))) (fun hb => ?_) (fun hb => ?_)
       ·have o_20' := o_21' hb
        refine WL.set 108 rfl (congrArg zB hb) ?_
        refine wm ?_
        refine wv (OV.index rfl rfl f8 o_20') ?_
        refine wv (OV.eql rfl rfl) ?_
        refine wv (OV.pickT rfl rfl) ?_
        refine WL.set 112 rfl (bT (v := decide ((((av.getD (p_2'.at1).toNat default).getD (0 : Int).toNat 0).toNat : Int) = 45)) hb) ?_
        exact WL.end_ (kg hK_40')
       ·refine WL.set 108 rfl (congrArg zB hb) ?_
        refine wk ?_
        refine wk ?_
        refine wk ?_
        refine wv (OV.pickF rfl rfl) ?_
        refine WL.set 112 rfl (bF (v := decide ((((av.getD (p_2'.at1).toNat default).getD (0 : Int).toNat 0).toNat : Int) = 45)) hb) ?_
        exact WL.end_ (kg hK_40')
      refine wA ?_
      refine WL.nil ?_
      refine kg (hK_38' [(0, zP pb), (3, zB plain_1'), (100, zB (((!plain_1') && (decide (1 < ((av.getD (p_2'.at1).toNat default).length : Int)))) && (decide ((((av.getD (p_2'.at1).toNat default).getD (0 : Int).toNat 0).toNat : Int) = 45))))] _ ?_)
      refine b9 (b := ((!plain_1') && (decide (1 < ((av.getD (p_2'.at1).toNat default).length : Int)))) && (decide ((((av.getD (p_2'.at1).toNat default).getD (0 : Int).toNat 0).toNat : Int) = 45))) rfl (fun hb => ?_) (fun hb => ?_)
      ·replace h := j6 h hb
       refine a6 ?_
       refine wm ?_
       obtain ⟨o_22', h⟩ := h
       refine WL.callS1 ajl rfl (agh pb mb wa av p_2' c_1'  o_22') rfl (LOk.inn hi1) trivial rfl rfl (fun r H' hS => ?_) (fun c H' hS => ?_)
       ·rcases hS with ⟨q_9', sl_9', hc, ho⟩ | ⟨at0_4', why_4', q_10', sl_10', hc, ho⟩ <;> cases ho
        replace h := h.1 q_9' sl_9' hc
        refine WL.nil ?_
        exact kh (hK_31' (plain_1', q_9', sl_9') h.1 h.2) [0, 1]
       ·rcases hS with ⟨q_9', sl_9', hc, ho⟩ | ⟨at0_4', why_4', q_10', sl_10', hc, ho⟩ <;> cases ho
        replace h := h.2 at0_4' why_4' q_10' sl_10' hc
        exact hE.pan [0, 1] rfl rfl (.inr ⟨_, _, _, h, rfl⟩)
      ·replace h := j5 h hb
       refine a6 ?_
       refine wm ?_
       obtain ⟨o_23', h⟩ := h
       refine WL.callS1 ai4 rfl (af3 pb mb wa av p_2' c_1'  o_23') rfl (LOk.inn hi1) trivial rfl rfl (fun r H' hS => ?_) (fun c H' hS => ?_)
       ·rcases hS with ⟨q_11', sl_11', hc, ho⟩ | ⟨at0_5', why_5', q_12', sl_12', hc, ho⟩ <;> cases ho
        replace h := h.1 q_11' sl_11' hc
        refine WL.nil ?_
        exact kh (hK_31' (plain_1', q_11', sl_11') h.1 h.2) [0, 1]
       ·rcases hS with ⟨q_11', sl_11', hc, ho⟩ | ⟨at0_5', why_5', q_12', sl_12', hc, ho⟩ <;> cases ho
        replace h := h.2 at0_5' why_5' q_12' sl_12' hc
        exact hE.pan [0, 1] rfl rfl (.inr ⟨_, _, _, h, rfl⟩)
    ·replace h := j5 h hb
     refine s8 ?_
     refine kg (hK_13' [(0, zP pb)] _ ?_)
     refine a7 (fun _ hK_41' => ?_)
     refine w5 10 [] r5 (by kernel_rfl) rfl (fun T_6' hT_6' => ?_)
     refine fv (fun _ => OV.move rfl) ?_
     refine fv (fun _ => OV.nilCheck rfl) ?_
     refine fv (fun _ => OV.fieldAddr0 rfl u7) ?_
     refine fv (fun _ => OV.load rfl (At.own 0 rfl) rfl g8) ?_
     refine fv (fun _ => OV.move rfl) ?_
     refine fv (fun _ => OV.nilCheck rfl) ?_
     refine fv (fun _ => OV.fieldAddr0 rfl u6) ?_
     refine fv (fun _ => OV.fieldAddr rfl w3) ?_
     refine fv (fun _ => OV.load rfl (At.own 0 rfl) rfl f7) ?_
     refine fv (fun _ => OV.len rfl f8) ?_
     refine FL.weak (L' := fun γ => [(0, zP pb), (118, zI p_2'.got), (124, zI (p_2'.sops.length : Int))]) (fun γ => ⟨rfl, rfl, rfl, trivial⟩) (FL.nil (hT_6' (fun γ => [(0, zP pb), (118, zI p_2'.got), (124, zI (p_2'.sops.length : Int))]) (fun γ => ?_)))
     refine wv (OV.lss rfl rfl) ?_
     refine WL.nil ?_
     refine kg (hK_41' [(0, zP pb), (125, zB (decide (p_2'.got < (p_2'.sops.length : Int))))] _ ?_)
     refine b9 (b := decide (p_2'.got < (p_2'.sops.length : Int))) rfl (fun hb => ?_) (fun hb => ?_)
     ·replace h := j6 h hb
      refine a6 ?_
      refine wm ?_
      refine wm ?_
      refine wv (OV.nilCheck rfl) ?_
      refine wv (OV.fieldAddr0 rfl p3) ?_
      refine wv (OV.load rfl (At.own 0 rfl) rfl s7) ?_
      refine wv (OV.lenIn hi1 rfl f0) ?_
      refine WL.callS u4 rfl (s5 (zP pb) (av.length : Int) ([109, 105, 115, 115, 105, 110, 103, 32, 111, 112, 101, 114, 97, 110, 100] : List UInt8)) rfl trivial rfl rfl (fun r H' hS => by cases hS) (fun c H' hS => ?_)
      cases hS
      exact hE.pan [0, 1] rfl rfl (.inr ⟨_, _, _, h, rfl⟩)
     ·replace h := j5 h hb
      refine b8 ?_
      exact hE.norm [0, 1] rfl rfl (.inl ⟨_, _, h, rfl⟩) (l7.none rfl)
   ·skip
    refine a7 (fun _ hK_42' => ?_)
    refine a6 ?_
    refine wm ?_
    refine wv (OV.nilCheck rfl) ?_
    refine wv (OV.fieldAddr0 rfl l9) ?_
    refine wv (OV.fieldAddr0 rfl x6) ?_
    refine wv (OV.load rfl (At.own 0 rfl) rfl f7) ?_
    refine WL.nil ?_
    refine kg (hK_42' [(0, zP pb), (48, st (({ { { q with sname := (a8 (av.getD ((0 : Int)).toNat default)).1, sops := (a8 (av.getD ((0 : Int)).toNat default)).2.1, sopts := (a8 (av.getD ((0 : Int)).toNat default)).2.2 } with name := (av.getD ((0 : Int)).toNat default) } with budget := 1024 }).name))] _ ?_)
    refine f9 ?_
    refine a7 (fun _ hK_43' => ?_)
    refine a6 ?_
    refine wv (OV.eqlS rfl rfl) ?_
    refine wA ?_
    refine WL.nil ?_
    refine kg (hK_43' [(0, zP pb), (48, st (({ { { q with sname := (a8 (av.getD ((0 : Int)).toNat default)).1, sops := (a8 (av.getD ((0 : Int)).toNat default)).2.1, sopts := (a8 (av.getD ((0 : Int)).toNat default)).2.2 } with name := (av.getD ((0 : Int)).toNat default) } with budget := 1024 }).name)), (49, zB (decide (({ { { q with sname := (a8 (av.getD ((0 : Int)).toNat default)).1, sops := (a8 (av.getD ((0 : Int)).toNat default)).2.1, sopts := (a8 (av.getD ((0 : Int)).toNat default)).2.2 } with name := (av.getD ((0 : Int)).toNat default) } with budget := 1024 }).name = ([119, 111, 114, 100, 115] : List UInt8))))] _ ?_)
    refine b9 (b := decide (({ { { q with sname := (a8 (av.getD ((0 : Int)).toNat default)).1, sops := (a8 (av.getD ((0 : Int)).toNat default)).2.1, sopts := (a8 (av.getD ((0 : Int)).toNat default)).2.2 } with name := (av.getD ((0 : Int)).toNat default) } with budget := 1024 }).name = ([119, 111, 114, 100, 115] : List UInt8))) rfl (fun hb => ?_) (fun hb => ?_)
    ·replace h := j6 h hb
     refine a6 ?_
     refine wm ?_
     refine wv (OV.nilCheck rfl) ?_
     refine wv (OV.fieldAddr0 rfl l9) ?_
     refine wv (OV.fieldAddr0 rfl aam) ?_
     refine WL.store (vs := [zI 10]) (cs' := psC wa mb ({ { { { q with sname := (a8 (av.getD ((0 : Int)).toNat default)).1, sops := (a8 (av.getD ((0 : Int)).toNat default)).2.1, sopts := (a8 (av.getD ((0 : Int)).toNat default)).2.2 } with name := (av.getD ((0 : Int)).toNat default) } with budget := 1024 } with count := 10 })) 0 rfl rfl rfl rfl m8 (Nat.le_of_ble_eq_true rfl) rfl rfl rfl ?_
     refine WL.nil ?_
     exact kh (hK_11' ({ { { { q with sname := (a8 (av.getD ((0 : Int)).toNat default)).1, sops := (a8 (av.getD ((0 : Int)).toNat default)).2.1, sopts := (a8 (av.getD ((0 : Int)).toNat default)).2.2 } with name := (av.getD ((0 : Int)).toNat default) } with budget := 1024 } with count := 10 }) h) [0, 1]
    ·replace h := j5 h hb
     refine a7 (fun _ hK_44' => ?_)
     refine a6 ?_
     refine wv (OV.eqlS rfl rfl) ?_
     refine wA ?_
     refine WL.nil ?_
     refine kg (hK_44' [(0, zP pb), (55, zB (decide (({ { { q with sname := (a8 (av.getD ((0 : Int)).toNat default)).1, sops := (a8 (av.getD ((0 : Int)).toNat default)).2.1, sopts := (a8 (av.getD ((0 : Int)).toNat default)).2.2 } with name := (av.getD ((0 : Int)).toNat default) } with budget := 1024 }).name = ([115, 116, 114, 101, 97, 109] : List UInt8))))] _ ?_)
     refine b9 (b := decide (({ { { q with sname := (a8 (av.getD ((0 : Int)).toNat default)).1, sops := (a8 (av.getD ((0 : Int)).toNat default)).2.1, sopts := (a8 (av.getD ((0 : Int)).toNat default)).2.2 } with name := (av.getD ((0 : Int)).toNat default) } with budget := 1024 }).name = ([115, 116, 114, 101, 97, 109] : List UInt8))) rfl (fun hb => ?_) (fun hb => ?_)
     ·replace h := j6 h hb
      refine a6 ?_
      refine wm ?_
      refine wv (OV.nilCheck rfl) ?_
      refine wv (OV.fieldAddr0 rfl l9) ?_
      refine wv (OV.fieldAddr0 rfl aao) ?_
      refine WL.store (vs := [zI 16]) (cs' := psC wa mb ({ { { { q with sname := (a8 (av.getD ((0 : Int)).toNat default)).1, sops := (a8 (av.getD ((0 : Int)).toNat default)).2.1, sopts := (a8 (av.getD ((0 : Int)).toNat default)).2.2 } with name := (av.getD ((0 : Int)).toNat default) } with budget := 1024 } with chunk := 16 })) 0 rfl rfl rfl rfl m8 (Nat.le_of_ble_eq_true rfl) rfl rfl rfl ?_
      refine WL.nil ?_
      exact kh (hK_11' ({ { { { q with sname := (a8 (av.getD ((0 : Int)).toNat default)).1, sops := (a8 (av.getD ((0 : Int)).toNat default)).2.1, sopts := (a8 (av.getD ((0 : Int)).toNat default)).2.2 } with name := (av.getD ((0 : Int)).toNat default) } with budget := 1024 } with chunk := 16 }) h) [0, 1]
     ·replace h := j5 h hb
      refine b8 ?_
      exact kh (hK_11' ({ { { q with sname := (a8 (av.getD ((0 : Int)).toNat default)).1, sops := (a8 (av.getD ((0 : Int)).toNat default)).2.1, sopts := (a8 (av.getD ((0 : Int)).toNat default)).2.2 } with name := (av.getD ((0 : Int)).toNat default) } with budget := 1024 }) h) [0, 1]
theorem alz {av : List Bs} {q q2 : PS} {sl sl2 : List Int} (h : abf av q sl = .ok (q2, sl2)) : q.at1 + 1 ≤ q2.at1 ∧ q2.at1 ≤ q.at1 + 2 ∧ q2.got = q.got ∧ q2.sops = q.sops ∧ sl2.length = sl.length + 1 ∧ (q.at1 < av.length → q2.at1 ≤ av.length) := by
 have hset : ∀ (l : Int) (v : Bs) (q : PS), (w1 l v q).2.got = q.got ∧ (w1 l v q).2.sops = q.sops ∧ (w1 l v q).2.at1 = q.at1 := fun l v q => by
  unfold w1
  (repeat' split) <;> exact ⟨rfl, rfl, rfl⟩
 unfold abf at h
 simp only at h
 split at h
 ·cases h
 split at h
 ·cases h
 split at h
 ·cases h
 split at h
 ·cases h
 ·rename_i v p hv
  split at h
  ·simp only [Except.ok.injEq, Prod.mk.injEq] at h
   obtain ⟨rfl, rfl⟩ := h
   obtain ⟨s1, s2, s3⟩ := hset ((((i7 av q.at1).getD 1 0).toNat : Nat) : Int) v p
   have hp : (q.at1 ≤ p.at1 ∧ p.at1 ≤ q.at1 + 1) ∧ p.got = q.got ∧ p.sops = q.sops ∧ (q.at1 < av.length → p.at1 < av.length) := by
    unfold acn at hv
    split at hv
    ·split at hv
     ·cases hv
     ·rename_i hne
      simp only [Except.ok.injEq, Prod.mk.injEq] at hv
      obtain ⟨_, rfl⟩ := hv
      refine ⟨⟨?_, ?_⟩, rfl, rfl, fun h => ?_⟩
      ·show q.at1 ≤ q.at1 + 1; omega
      ·show q.at1 + 1 ≤ q.at1 + 1; omega
      ·show q.at1 + 1 < (av.length : Int); omega
    ·simp only [Except.ok.injEq, Prod.mk.injEq] at hv
     obtain ⟨_, rfl⟩ := hv
     exact ⟨⟨by omega, by omega⟩, rfl, rfl, id⟩
   obtain ⟨hp1, hp2, hp3, hp4⟩ := hp
   refine ⟨?_, ?_, ?_, ?_, rfl, fun h => ?_⟩
   ·show q.at1 + 1 ≤ _ + 1; rw [s3]; omega
   ·show _ + 1 ≤ q.at1 + 2; rw [s3]; omega
   ·show _ = q.got; rw [← hp2]; exact s1
   ·show _ = q.sops; rw [← hp3]; exact s2
   ·have := hp4 h; show _ + 1 ≤ (av.length : Int); rw [s3]; omega
  ·cases h
theorem alj {av : List Bs} {q q2 : PS} (h : abg av q = .ok q2) : q2.at1 = q.at1 + 1 ∧ q2.got = q.got + 1 ∧ q2.sops = q.sops ∧ q.got ≠ q.sops.length := by
 unfold abg at h
 split at h
 ·cases h
 ·rename_i hne
  simp only at h
  split at h
  ·cases h
  ·simp only [Except.ok.injEq] at h
   subst h
   exact ⟨rfl, rfl, (abs _ _ _).2.2, hne⟩
theorem agc (nm : Bs) : (a8 nm).2.1.length ≤ 100 := by
 unfold a8
 cases h : shapes.find? (fun s => decide (s.1 = nm)) with
 | none => show ([] : Bs).length ≤ 100; simp
 | some s =>
  have hm := List.mem_of_find?_eq_some h
  have : ∀ s ∈ shapes, s.2.1.length ≤ 100 := by decide
  exact this s hm
theorem ak0 (te : TypeId) (fre : Nat × Nat) (pb mb : Nat) (wa : Value) (av : List Bs) (q : PS) (sl : List Int) (h : anc av q sl) (R : List (Nat × Obj)) (hR : w8 wa R av.length (av.flatMap j3)) :
  j8 Tryd.prog 15 [.pointer (some ⟨pb, 0, none⟩)] (R ++ adg te fre) [.blk pb (.cells (psC wa mb q).toArray 47 (0, 0)), cnt Tryd.prog 5 3 mb sl]
   (fun o => (∃ q2 sl2, amm av q sl q2 sl2 ∧ o = .ret (.tuple #[]) [.blk pb (.cells (psC wa mb q2).toArray 47 (0, 0)), cnt Tryd.prog 5 3 mb sl2]) ∨
    (∃ e why q2 sl2, alv av q sl e why ∧ o = .pan [{ v := x2 e why, recovered := false }] [.blk pb (.cells (psC wa mb q2).toArray 47 (0, 0)), cnt Tryd.prog 5 3 mb sl2])) := by
 obtain ⟨hA, hg, rfl⟩ := h
 refine (aml pb wa mb te fre q av [] R hR (fun q2 sl2 => amm av q [] q2 sl2) (fun v _ _ => ∃ e why, alv av q [] e why ∧ v = x2 e why) ?_).weak ?_
 ·have hA1 := hA.1
  unfold ahn
  have hE : ∀ {e : Int} {why : Bs}, w9 av q = .error (e, why) → ∃ e' why', alv av q [] e' why' ∧ x2 e why = x2 e' why' := fun h => ⟨_, _, h, rfl⟩
  by_cases k1 : av.length = 0
  ·rw [if_pos (by rw [decide_eq_true_eq]; omega)]
   exact hE (by unfold w9; rw [if_pos k1])
  rw [if_neg (by rw [decide_eq_true_eq]; omega)]
  refine ⟨⟨by omega, by omega⟩, ?_⟩
  rw [show av.getD ((0 : Int)).toNat default = i7 av 0 from rfl]
  cases k2 : u2 (i7 av 0) with
  | false =>
   rw [if_pos (show (!false) = true from rfl)]
   exact hE (by unfold w9; rw [if_neg k1, if_pos k2])
  | true =>
  rw [if_neg (by simp)]
  have hu : w9 av q = goM av av.length false (q9 av q) [] := by unfold w9; rw [if_neg k1, if_neg (by rw [k2]; simp)]
  refine ⟨⟨by omega, by omega⟩, fun p => { p with at1 := 1 } = q9 av q, ?_, ?_⟩
  ·intro p hp
   rw [hp]
   have hst : (q9 av q).at1 = 1 ∧ (q9 av q).got = 0 ∧ (q9 av q).sops = (a8 (i7 av 0)).2.1 := by
    unfold q9
    simp only
    (repeat' split) <;> exact ⟨rfl, hg, rfl⟩
   refine ⟨fun plain p sl => 1 ≤ p.at1 ∧ p.at1 ≤ av.length ∧ 0 ≤ p.got ∧ p.got ≤ p.sops.length ∧ p.sops.length ≤ 100 ∧ (sl.length : Int) ≤ p.at1 ∧ ∃ f : Nat, (av.length : Int) - p.at1 ≤ f ∧ goM av f plain p sl = w9 av q, fun _ p _ => ((av.length : Int) - p.at1).toNat, ⟨by omega, by omega, by omega, by rw [hst.2.1]; omega, by rw [hst.2.2]; exact agc _, by rw [hst.1]; simp, av.length, by omega, hu.symm⟩, ?_⟩
   rintro plain p sl ⟨a1, a2, b1, b2, b3, c1, f, f1, f2⟩
   by_cases k3 : p.at1 < av.length
   ·rw [if_pos (by rw [decide_eq_true_eq]; exact k3)]
    refine ⟨⟨by omega, k3⟩, ?_⟩
    rw [show av.getD (p.at1).toNat default = i7 av p.at1 from rfl]
    obtain ⟨f, rfl⟩ : ∃ g, f = g + 1 := ⟨f - 1, by omega⟩
    rw [goM, if_pos k3] at f2
    by_cases k4 : (!plain) = true ∧ i7 av p.at1 = [45, 45]
    ·rw [if_pos (by rw [k4.1, k4.2]; rfl)]
     rw [if_pos k4] at f2
     refine ⟨by unfold I64; omega, ⟨by show 1 ≤ p.at1 + 1; omega, by show p.at1 + 1 ≤ (av.length : Int); omega, b1, b2, b3, by show (sl.length : Int) ≤ p.at1 + 1; omega, f, by show (av.length : Int) - (p.at1 + 1) ≤ f; omega, f2⟩, ?_⟩
     show ((av.length : Int) - (p.at1 + 1)).toNat < ((av.length : Int) - p.at1).toNat; omega
    ·rw [if_neg (by rw [Bool.and_eq_true, decide_eq_true_eq]; exact k4)]
     rw [if_neg k4] at f2
     refine ⟨fun h => ⟨by omega, by simp only [Bool.and_eq_true, decide_eq_true_eq] at h; omega⟩, ?_⟩
     have hgd : (i7 av p.at1).getD (0 : Int).toNat 0 = (i7 av p.at1).getD 0 0 := rfl
     rw [hgd]
     by_cases k5 : (!plain) = true ∧ 1 < (i7 av p.at1).length ∧ ((i7 av p.at1).getD 0 0).toNat = 45
     ·rw [if_pos (by simp only [Bool.and_eq_true, decide_eq_true_eq]; exact ⟨⟨k5.1, by omega⟩, by omega⟩)]
      rw [if_pos k5] at f2
      refine ⟨⟨hA, by omega, k3, by omega, by omega⟩, ?_, ?_⟩
      ·intro q2 sl2 ho
       have ho' : abf av p sl = .ok (q2, sl2) := ho
       obtain ⟨o1, o2, o3, o4, o5, o6⟩ := alz ho'
       rw [ho'] at f2
       refine ⟨⟨by omega, o6 k3, by omega, by rw [o3, o4]; exact b2, by rw [o4]; exact b3, by omega, f, by omega, f2⟩, ?_⟩
       show ((av.length : Int) - q2.at1).toNat < ((av.length : Int) - p.at1).toNat; omega
      ·intro e why q2 sl2 ho
       have ho' : abf av p sl = .error (e, why) := ho
       rw [ho'] at f2
       exact hE f2.symm
     ·rw [if_neg (by
       simp only [Bool.and_eq_true, decide_eq_true_eq, not_and]
       intro h1 h2; exact k5 ⟨h1.1, by omega, by omega⟩)]
      rw [if_neg k5] at f2
      refine ⟨⟨hA, by omega, k3, b1, b2, b3⟩, ?_, ?_⟩
      ·rintro q2 sl2 ⟨ho, rfl⟩
       obtain ⟨o1, o2, o3, o4⟩ := alj ho
       rw [ho] at f2
       refine ⟨⟨by omega, by omega, by omega, by rw [o2, o3]; omega, by rw [o3]; exact b3, by omega, f, by omega, f2⟩, ?_⟩
       show ((av.length : Int) - q2.at1).toNat < ((av.length : Int) - p.at1).toNat; omega
      ·intro e why q2 sl2 ho
       have ho' : abg av p = .error (e, why) := ho
       rw [ho'] at f2
       exact hE f2.symm
   ·rw [if_neg (by rw [decide_eq_true_eq]; exact k3)]
    have f3 : (if p.got < p.sops.length then Except.error ((av.length : Int), acw) else .ok p) = w9 av q := by
     rw [← f2]
     cases f with
     | zero => rw [goM]
     | succ f => rw [goM, if_neg k3]
    by_cases k6 : p.got < p.sops.length
    ·rw [if_pos (by rw [decide_eq_true_eq]; exact k6)]
     rw [if_pos k6] at f3
     exact hE f3.symm
    ·rw [if_neg (by rw [decide_eq_true_eq]; exact k6)]
     rw [if_neg k6] at f3
     exact f3.symm
  ·unfold q9
   by_cases c1 : i7 av 0 = [119, 111, 114, 100, 115]
   ·rw [if_pos (by rw [decide_eq_true_eq]; exact c1)]
    simp only; rw [if_pos c1]
   ·rw [if_neg (by rw [decide_eq_true_eq]; exact c1)]
    by_cases c2 : i7 av 0 = [115, 116, 114, 101, 97, 109]
    ·rw [if_pos (by rw [decide_eq_true_eq]; exact c2)]
     simp only; rw [if_neg c1, if_pos c2]
    ·rw [if_neg (by rw [decide_eq_true_eq]; exact c2)]
     simp only; rw [if_neg c1, if_neg c2]
 ·rintro o (⟨q2, sl2, h, rfl⟩ | ⟨v, q2, sl2, ⟨e, why, h, rfl⟩, rfl⟩)
  ·exact .inl ⟨q2, sl2, h, rfl⟩
  ·exact .inr ⟨e, why, q2, sl2, h, rfl⟩
end Go.Proofs.YtaaepdlajkdneaaDoor
set_option maxRecDepth 100000
namespace Go.Proofs.YtaaepdlajkdneaaDoor
open Go Go.RowKit
theorem y7 : t7 Tryd.prog 25 11 = true := by kernel_rfl
theorem y9 : t7 Tryd.prog 28 3 = true := by kernel_rfl
theorem aa1 : ad6 Tryd.prog 25 = some [st [], st [], st [], st [], st [], zI 0, zI 0, zI 0, zI 0, zI 0, st []] := by kernel_rfl
theorem aa5 : ad6 Tryd.prog 28 = some [zI 0, zI 0, st []] := by kernel_rfl
theorem ajm : p9 Tryd.prog 15 = true := by kernel_rfl
theorem v8 : RowT Tryd.prog 25 11 := ⟨by kernel_rfl, by kernel_rfl⟩
theorem aar : RowT Tryd.prog 28 3 := ⟨by kernel_rfl, by kernel_rfl⟩
theorem afk : p9 Tryd.prog 14 = true := by kernel_rfl
def ach (c_0 : List UInt8) (c_1 : List UInt8) (c_2 : List UInt8) (c_3 : List UInt8) (c_4 : List UInt8) (c_5 : Int) (c_6 : Int) (c_7 : Int) (c_8 : Int) (c_9 : Int) (c_10 : List UInt8) (c_1'_0 : Int) (c_1'_1 : Int) (c_1'_2 : List UInt8) (K : (List UInt8) → (List UInt8) → (List UInt8) → (List UInt8) → (List UInt8) → Int → Int → Int → Int → Int → (List UInt8) → Int → Int → (List UInt8) → Prop) : Prop :=
 K c_0 c_1 c_2 c_3 c_4 c_5 c_6 c_7 c_8 c_9 c_10 c_1'_0 c_1'_1 c_1'_2
theorem ahr (b : Nat) (b_1' : Nat) (c_0 : List UInt8) (c_1 : List UInt8) (c_2 : List UInt8) (c_3 : List UInt8) (c_4 : List UInt8) (c_5 : Int) (c_6 : Int) (c_7 : Int) (c_8 : Int) (c_9 : Int) (c_10 : List UInt8) (c_1'_0 : Int) (c_1'_1 : Int) (c_1'_2 : List UInt8) (K : (List UInt8) → (List UInt8) → (List UInt8) → (List UInt8) → (List UInt8) → Int → Int → Int → Int → Int → (List UInt8) → Int → Int → (List UInt8) → Prop) (h : ach c_0 c_1 c_2 c_3 c_4 c_5 c_6 c_7 c_8 c_9 c_10 c_1'_0 c_1'_1 c_1'_2 K) :
  acs Tryd.prog 14 [zP b, zP b_1'] (.returning) (.returning) [] [HA.blk b (.cells [st c_0, st c_1, st c_2, st c_3, st c_4, zI c_5, zI c_6, zI c_7, zI c_8, zI c_9, st c_10].toArray 25 (0, 0)), HA.blk b_1' (.cells [zI c_1'_0, zI c_1'_1, st c_1'_2].toArray 28 (0, 0))] (fun o => (∃ (d_0 : List UInt8) (d_1 : List UInt8) (d_2 : List UInt8) (d_3 : List UInt8) (d_4 : List UInt8) (d_5 : Int) (d_6 : Int) (d_7 : Int) (d_8 : Int) (d_9 : Int) (d_10 : List UInt8) (d_1'_0 : Int) (d_1'_1 : Int) (d_1'_2 : List UInt8), K d_0 d_1 d_2 d_3 d_4 d_5 d_6 d_7 d_8 d_9 d_10 d_1'_0 d_1'_1 d_1'_2 ∧ o = .ret (Value.tuple #[]) [HA.blk b (.cells [st d_0, st d_1, st d_2, st d_3, st d_4, zI d_5, zI d_6, zI d_7, zI d_8, zI d_9, st d_10].toArray 25 (0, 0)), HA.blk b_1' (.cells [zI d_1'_0, zI d_1'_1, st d_1'_2].toArray 28 (0, 0))]) ∨ (False)) := by
 unfold ach at h
 refine afi (n := 9) (L0 := [(0, zP b), (1, zP b_1')]) (v := Value.nilIface) Tryd.func14 rfl rfl rfl rfl rfl rfl (.inl ⟨rfl, rfl, rfl⟩) (fun w0 M Q hE => ?_)
 refine a7 (fun _ hK => ?_)
 refine a6 ?_
 refine wm ?_
 refine wv (OV.neqNil0 rfl Tryd.underlying20) ?_
 refine WL.nil ?_
 refine kg (hK [(0, zP b), (1, zP b_1'), (2, Value.nilIface), (5, zB false)] _ ?_)
 refine m5 rfl ?_
 refine b8 ?_
 exact hE.norm [0, 1] rfl rfl (.inl ⟨_, _, _, _, _, _, _, _, _, _, _, _, _, _, h, rfl⟩) (l7.none rfl)
def aco (_ : List UInt8) (_ : List UInt8) (_ : List UInt8) (_ : List UInt8) (_ : List UInt8) (_ : Int) (_ : Int) (_ : Int) (_ : Int) (_ : Int) (_ : List UInt8) (_ : Int) (_ : Int) (_ : List UInt8) (fc : Int) (fa : Int) (ft : List UInt8) (K : (List UInt8) → (List UInt8) → (List UInt8) → (List UInt8) → (List UInt8) → Int → Int → Int → Int → Int → (List UInt8) → Int → Int → (List UInt8) → Prop) : Prop :=
 K [] [] [] [] [] 0 0 0 0 0 [] fc fa ft
theorem ahw (b : Nat) (b_1' : Nat) (c_0 : List UInt8) (c_1 : List UInt8) (c_2 : List UInt8) (c_3 : List UInt8) (c_4 : List UInt8) (c_5 : Int) (c_6 : Int) (c_7 : Int) (c_8 : Int) (c_9 : Int) (c_10 : List UInt8) (c_1'_0 : Int) (c_1'_1 : Int) (c_1'_2 : List UInt8) (fc : Int) (fa : Int) (ft : List UInt8) (K : (List UInt8) → (List UInt8) → (List UInt8) → (List UInt8) → (List UInt8) → Int → Int → Int → Int → Int → (List UInt8) → Int → Int → (List UInt8) → Prop) (h : aco c_0 c_1 c_2 c_3 c_4 c_5 c_6 c_7 c_8 c_9 c_10 c_1'_0 c_1'_1 c_1'_2 fc fa ft K) :
  acs Tryd.prog 14 [zP b, zP b_1'] (.panicking [{ v := Value.iface 28 (Value.agg [zI fc, zI fa, st ft].toArray), recovered := false }]) (.panicking [{ v := Value.iface 28 (Value.agg [zI fc, zI fa, st ft].toArray), recovered := true }]) [] [HA.blk b (.cells [st c_0, st c_1, st c_2, st c_3, st c_4, zI c_5, zI c_6, zI c_7, zI c_8, zI c_9, st c_10].toArray 25 (0, 0)), HA.blk b_1' (.cells [zI c_1'_0, zI c_1'_1, st c_1'_2].toArray 28 (0, 0))] (fun o => (∃ (d_0 : List UInt8) (d_1 : List UInt8) (d_2 : List UInt8) (d_3 : List UInt8) (d_4 : List UInt8) (d_5 : Int) (d_6 : Int) (d_7 : Int) (d_8 : Int) (d_9 : Int) (d_10 : List UInt8) (d_1'_0 : Int) (d_1'_1 : Int) (d_1'_2 : List UInt8), K d_0 d_1 d_2 d_3 d_4 d_5 d_6 d_7 d_8 d_9 d_10 d_1'_0 d_1'_1 d_1'_2 ∧ o = .ret (Value.tuple #[]) [HA.blk b (.cells [st d_0, st d_1, st d_2, st d_3, st d_4, zI d_5, zI d_6, zI d_7, zI d_8, zI d_9, st d_10].toArray 25 (0, 0)), HA.blk b_1' (.cells [zI d_1'_0, zI d_1'_1, st d_1'_2].toArray 28 (0, 0))]) ∨ (False)) := by
 unfold aco at h
 refine afi (n := 9) (L0 := [(0, zP b), (1, zP b_1')]) (v := Value.iface 28 (Value.agg [zI fc, zI fa, st ft].toArray)) Tryd.func14 rfl rfl rfl rfl rfl rfl (.inr ⟨_, rfl, rfl, rfl⟩) (fun w0 M Q hE => ?_)
 refine a7 (fun _ hK => ?_)
 refine a6 ?_
 refine wm ?_
 refine wv (OV.neqNil rfl rfl Tryd.underlying20) ?_
 refine WL.nil ?_
 refine kg (hK [(0, zP b), (1, zP b_1'), (2, Value.iface 28 (Value.agg [zI fc, zI fa, st ft].toArray)), (5, zB true)] _ ?_)
 refine o7 rfl ?_
 refine akj 3 [] [] rfl rfl r5 (by kernel_rfl) (fun T hT => ?_)
 refine TW.val (OV.build rfl (cs := [st [], st [], st [], st [], st [], zI 0, zI 0, zI 0, zI 0, zI 0, st []]) rfl) rfl rfl rfl ?_
 refine TW.val (OV.move rfl) rfl rfl rfl ?_
 refine TW.val (OV.assertIs rfl Tryd.underlying28 rfl) rfl rfl rfl ?_
 refine TW.nil (hT _ ?_)
 refine WLK.op [] rfl rfl (OpK.storeW (vs := [st [], st [], st [], st [], st [], zI 0, zI 0, zI 0, zI 0, zI 0, st []]) 0 rfl rfl rfl rfl rfl y7 rfl rfl) rfl ?_
 refine WLK.op [] rfl rfl (OpK.storeW (vs := [zI fc, zI fa, st ft]) 1 rfl rfl rfl rfl rfl y9 rfl rfl) rfl ?_
 refine WLK.nil ?_
 exact hE.norm [0, 1] rfl rfl (.inl ⟨_, _, _, _, _, _, _, _, _, _, _, _, _, _, h, rfl⟩) (l7.none rfl)
abbrev adu (b b1 : Nat) (c0 : Bs) (c1 : Bs) (c2 : Bs) (c3 : Bs) (c4 : Bs) (c5 : Int) (c6 : Int) (c7 : Int) (c8 : Int) (c9 : Int) (c10 : Bs) (x y : Int) (z : Bs) : List HA :=
 [.blk b (.cells [st c0, st c1, st c2, st c3, st c4, zI c5, zI c6, zI c7, zI c8, zI c9, st c10].toArray 25 (0, 0)), .blk b1 (.cells [zI x, zI y, st z].toArray 28 (0, 0))]
theorem ah5 (b b1 : Nat) (c0 : Bs) (c1 : Bs) (c2 : Bs) (c3 : Bs) (c4 : Bs) (c5 : Int) (c6 : Int) (c7 : Int) (c8 : Int) (c9 : Int) (c10 : Bs) (x y : Int) (z : Bs) : acs Tryd.prog 14 [.pointer (some ⟨b, 0, none⟩), .pointer (some ⟨b1, 0, none⟩)] .returning .returning [] (adu b b1 c0 c1 c2 c3 c4 c5 c6 c7 c8 c9 c10 x y z) (Ret (.tuple #[]) (adu b b1 c0 c1 c2 c3 c4 c5 c6 c7 c8 c9 c10 x y z)) := by
 refine (ahr b b1 c0 c1 c2 c3 c4 c5 c6 c7 c8 c9 c10 x y z (fun c0' c1' c2' c3' c4' c5' c6' c7' c8' c9' c10' x' y' z' => c0' = c0 ∧ c1' = c1 ∧ c2' = c2 ∧ c3' = c3 ∧ c4' = c4 ∧ c5' = c5 ∧ c6' = c6 ∧ c7' = c7 ∧ c8' = c8 ∧ c9' = c9 ∧ c10' = c10 ∧ x' = x ∧ y' = y ∧ z' = z) ?_).weak ?_
 ·unfold ach; exact ⟨rfl, rfl, rfl, rfl, rfl, rfl, rfl, rfl, rfl, rfl, rfl, rfl, rfl, rfl⟩
 ·rintro o (⟨c0', c1', c2', c3', c4', c5', c6', c7', c8', c9', c10', x', y', z', ⟨rfl, rfl, rfl, rfl, rfl, rfl, rfl, rfl, rfl, rfl, rfl, rfl, rfl, rfl⟩, rfl⟩ | h)
  ·rfl
  ·exact h.elim
theorem aia (b b1 : Nat) (c0 : Bs) (c1 : Bs) (c2 : Bs) (c3 : Bs) (c4 : Bs) (c5 : Int) (c6 : Int) (c7 : Int) (c8 : Int) (c9 : Int) (c10 : Bs) (x y : Int) (z : Bs) (fc fa : Int) (ft : Bs) : acs Tryd.prog 14 [.pointer (some ⟨b, 0, none⟩), .pointer (some ⟨b1, 0, none⟩)]
  (.panicking [{ v := .iface 28 (.agg [.int .i64 fc, .int .i64 fa, st ft].toArray), recovered := false }]) (.panicking [{ v := .iface 28 (.agg [.int .i64 fc, .int .i64 fa, st ft].toArray), recovered := true }]) [] (adu b b1 c0 c1 c2 c3 c4 c5 c6 c7 c8 c9 c10 x y z) (Ret (.tuple #[]) (adu b b1 [] [] [] [] [] 0 0 0 0 0 [] fc fa ft)) := by
 refine (ahw b b1 c0 c1 c2 c3 c4 c5 c6 c7 c8 c9 c10 x y z fc fa ft (fun c0' c1' c2' c3' c4' c5' c6' c7' c8' c9' c10' x' y' z' => c0' = [] ∧ c1' = [] ∧ c2' = [] ∧ c3' = [] ∧ c4' = [] ∧ c5' = 0 ∧ c6' = 0 ∧ c7' = 0 ∧ c8' = 0 ∧ c9' = 0 ∧ c10' = [] ∧ x' = fc ∧ y' = fa ∧ z' = ft) ?_).weak ?_
 ·unfold aco; exact ⟨rfl, rfl, rfl, rfl, rfl, rfl, rfl, rfl, rfl, rfl, rfl, rfl, rfl, rfl⟩
 ·rintro o (⟨c0', c1', c2', c3', c4', c5', c6', c7', c8', c9', c10', x', y', z', ⟨rfl, rfl, rfl, rfl, rfl, rfl, rfl, rfl, rfl, rfl, rfl, rfl, rfl, rfl⟩, rfl⟩ | h)
  ·rfl
  ·exact h.elim
abbrev CmT := Bs × Bs × Bs × Bs × Bs × Int × Int × Int × Int × Int × Bs
def cmT (q : PS) : CmT := (q.name, q.lens, q.view, q.src, q.out, q.budget, q.count, q.chunk, q.at0, q.del, q.text)
def ps0 : PS := ⟨[], [], [], [], [], 0, 0, 0, 0, 0, [], [], [], [], 0, 0⟩
def b6 (av : List Bs) : CmT := match w9 av ps0 with
 | .ok q => cmT q
 | .error _ => cmT ps0
def m4 (av : List Bs) : Int × Int × Bs := match w9 av ps0 with
 | .ok _ => (0, 0, [])
 | .error e => (140, e.1, e.2)
def aef (argv : List (List UInt8)) (K : (List UInt8) → (List UInt8) → (List UInt8) → (List UInt8) → (List UInt8) → Int → Int → Int → Int → Int → (List UInt8) → Int → Int → (List UInt8) → Prop) : Prop :=
 (anc argv ⟨([] : List UInt8), ([] : List UInt8), ([] : List UInt8), ([] : List UInt8), ([] : List UInt8), 0, 0, 0, 0, 0, ([] : List UInt8), ([] : List UInt8), ([] : List UInt8), ([] : List UInt8), 0, 0⟩ ([] : List Int)) ∧
 (∀ (q : PS) (sl : List Int), amm argv ⟨([] : List UInt8), ([] : List UInt8), ([] : List UInt8), ([] : List UInt8), ([] : List UInt8), 0, 0, 0, 0, 0, ([] : List UInt8), ([] : List UInt8), ([] : List UInt8), ([] : List UInt8), 0, 0⟩ ([] : List Int)  q sl →
  K q.name q.lens q.view q.src q.out q.budget q.count q.chunk q.at0 q.del q.text 0 0 []) ∧
 (∀ (at0 : Int) (why : List UInt8) (_q_1' : PS) (_sl_1' : List Int), alv argv ⟨([] : List UInt8), ([] : List UInt8), ([] : List UInt8), ([] : List UInt8), ([] : List UInt8), 0, 0, 0, 0, 0, ([] : List UInt8), ([] : List UInt8), ([] : List UInt8), ([] : List UInt8), 0, 0⟩ ([] : List Int)  at0 why →
  K [] [] [] [] [] 0 0 0 0 0 [] 140 at0 why)
theorem ako (w : Value) (te : TypeId) (fre : Nat × Nat) (argv : List (List UInt8)) (Ri1 : List (Nat × Obj)) (hRi1 : w8 w Ri1 argv.length (argv.flatMap j3)) (K : (List UInt8) → (List UInt8) → (List UInt8) → (List UInt8) → (List UInt8) → Int → Int → Int → Int → Int → (List UInt8) → Int → Int → (List UInt8) → Prop) (h : aef argv K) :
  j8 Tryd.prog 7 [w] (Ri1 ++ [(0, .cells [st ([99, 104, 101, 99, 107] : List UInt8), st ([108] : List UInt8), st ([98] : List UInt8), st ([99, 111, 100, 101] : List UInt8), st ([108] : List UInt8), st ([98] : List UInt8), st ([119, 111, 114, 100, 115] : List UInt8), st ([108] : List UInt8), st ([98, 110] : List UInt8), st ([103, 101, 116] : List UInt8), st ([108, 115] : List UInt8), st ([98, 111] : List UInt8), st ([99, 97, 110, 111, 110] : List UInt8), st ([108, 115] : List UInt8), st ([98, 111] : List UInt8), st ([119, 104, 101, 114, 101] : List UInt8), st ([108, 115] : List UInt8), st ([98] : List UInt8), st ([115, 116, 114, 101, 97, 109] : List UInt8), st ([108, 115] : List UInt8), st ([98, 99] : List UInt8), st ([99, 114, 101, 97, 116, 101] : List UInt8), st ([108, 118] : List UInt8), st ([98, 111] : List UInt8), st ([112, 117, 116] : List UInt8), st ([108, 118, 115] : List UInt8), st ([98, 111] : List UInt8), st ([101, 100, 105, 116] : List UInt8), st ([108, 115, 97, 100, 116] : List UInt8), st ([98, 111] : List UInt8)].toArray te fre)]) [] (fun o => (∃ (v_0 : List UInt8) (v_1 : List UInt8) (v_2 : List UInt8) (v_3 : List UInt8) (v_4 : List UInt8) (v_5 : Int) (v_6 : Int) (v_7 : Int) (v_8 : Int) (v_9 : Int) (v_10 : List UInt8) (v_1'_0 : Int) (v_1'_1 : Int) (v_1'_2 : List UInt8), K v_0 v_1 v_2 v_3 v_4 v_5 v_6 v_7 v_8 v_9 v_10 v_1'_0 v_1'_1 v_1'_2 ∧ o = .ret (Value.tuple #[Value.agg [st v_0, st v_1, st v_2, st v_3, st v_4, zI v_5, zI v_6, zI v_7, zI v_8, zI v_9, st v_10].toArray, Value.agg [zI v_1'_0, zI v_1'_1, st v_1'_2].toArray]) []) ∨ (False)) := by
 unfold aef at h
 refine agf (n := 17) (L0 := [(0, w)]) Tryd.func7 rfl rfl rfl rfl (fun w0 M Q hE => ?_)
 have hi1 : LIn ⟨17, [], w0, M, (Ri1 ++ [(0, .cells [st ([99, 104, 101, 99, 107] : List UInt8), st ([108] : List UInt8), st ([98] : List UInt8), st ([99, 111, 100, 101] : List UInt8), st ([108] : List UInt8), st ([98] : List UInt8), st ([119, 111, 114, 100, 115] : List UInt8), st ([108] : List UInt8), st ([98, 110] : List UInt8), st ([103, 101, 116] : List UInt8), st ([108, 115] : List UInt8), st ([98, 111] : List UInt8), st ([99, 97, 110, 111, 110] : List UInt8), st ([108, 115] : List UInt8), st ([98, 111] : List UInt8), st ([119, 104, 101, 114, 101] : List UInt8), st ([108, 115] : List UInt8), st ([98] : List UInt8), st ([115, 116, 114, 101, 97, 109] : List UInt8), st ([108, 115] : List UInt8), st ([98, 99] : List UInt8), st ([99, 114, 101, 97, 116, 101] : List UInt8), st ([108, 118] : List UInt8), st ([98, 111] : List UInt8), st ([112, 117, 116] : List UInt8), st ([108, 118, 115] : List UInt8), st ([98, 111] : List UInt8), st ([101, 100, 105, 116] : List UInt8), st ([108, 115, 97, 100, 116] : List UInt8), st ([98, 111] : List UInt8)].toArray te fre)])⟩ w argv.length (argv.flatMap j3) := LIn.mk hRi1 (fun p hp => by simp [hp])
 refine a7 (fun _ hK => ?_)
 refine a6 ?_
 refine WL.make (MV.alloc aa1) rfl rfl rfl (fun b => ?_)
 refine WL.make (MV.alloc aa5) rfl rfl rfl (fun b_1' => ?_)
 refine WL.nil ?_
 refine kg (hK [(0, w), (2, zP b), (3, zP b_1')] _ ?_)
 refine alt (fun K0_1' hK_1' => ?_)
 refine a6 ?_
 refine wv (OV.makeFunc rfl) ?_
 refine WL.defer rfl rfl ?_
 refine WL.nil ?_
 refine kg (hK_1' _ [(0, w), (2, zP b), (3, zP b_1')] _ ?_)
 refine a7 (fun _ hK_2' => ?_)
 refine a6 ?_
 refine wm ?_
 refine WL.makeMap abv rfl rfl (fun b_2' => ?_)
 refine wv (OV.buildC (qs := [(2, [w]), (4, [Value.map (some b_2')])]) (cs := [st [], st [], st [], st [], st [], zI 0, zI 0, zI 0, zI 0, zI 0, st [], st [], st [], st [], w, zI 0, Value.map (some b_2'), zI 0]) rfl ⟨rfl, aiu hi1.one, ⟨rfl, rfl, trivial⟩⟩ rfl) ?_
 refine WL.make (MV.box (cs := [st [], st [], st [], st [], st [], zI 0, zI 0, zI 0, zI 0, zI 0, st [], st [], st [], st [], w, zI 0, Value.map (some b_2'), zI 0]) rfl rfl) rfl rfl rfl (fun b_3' => ?_)
 refine wA ?_
 refine WL.nil ?_
 refine kg (hK_2' [(2, zP b), (3, zP b_1'), (4, zP b_3')] _ ?_)
 refine a7 (fun _ hK_3' => ?_)
 refine a6 ?_
 refine wm ?_
 obtain ⟨o, h⟩ := h
 refine WL.callS1 ajm rfl (ak0 te fre b_3' b_2' w argv ⟨([] : List UInt8), ([] : List UInt8), ([] : List UInt8), ([] : List UInt8), ([] : List UInt8), 0, 0, 0, 0, 0, ([] : List UInt8), ([] : List UInt8), ([] : List UInt8), ([] : List UInt8), 0, 0⟩ ([] : List Int)  o) rfl (LOk.inn hi1) ⟨.inr (by simp), trivial⟩ rfl rfl (fun r H' hS => ?_) (fun c H' hS => ?_)
 ·rcases hS with ⟨q, sl, hc, ho⟩ | ⟨at0, why, q_1', sl_1', hc, ho⟩ <;> cases ho
  replace h := h.1 q sl hc
  refine WL.nil ?_
  refine kg (hK_3' [(2, zP b), (3, zP b_1'), (4, zP b_3')] _ ?_)
  refine a7 (fun _ hK_4' => ?_)
  refine a6 ?_
  refine wm ?_
  refine wv (OV.nilCheck rfl) ?_
  refine wv (OV.fieldAddr0 rfl l9) ?_
  refine wv (OV.loadM (vs := [st q.name, st q.lens, st q.view, st q.src, st q.out, zI q.budget, zI q.count, zI q.chunk, zI q.at0, zI q.del, st q.text]) rfl (At.own 0 rfl) rfl v8) ?_
  refine wv (OV.build rfl (cs := [zI 0, zI 0, st []]) rfl) ?_
  refine WL.storeW (vs := [st q.name, st q.lens, st q.view, st q.src, st q.out, zI q.budget, zI q.count, zI q.chunk, zI q.at0, zI q.del, st q.text]) 3 rfl rfl rfl rfl rfl y7 rfl rfl rfl ?_
  refine WL.storeW (vs := [zI 0, zI 0, st []]) 2 rfl rfl rfl rfl rfl y9 rfl rfl rfl ?_
  refine WL.nil ?_
  refine kg (hK_4' [(2, zP b), (3, zP b_1')] _ ?_)
  refine g7 ?_
  exact hE.ret (aio (A := [HA.blk b (.cells [st q.name, st q.lens, st q.view, st q.src, st q.out, zI q.budget, zI q.count, zI q.chunk, zI q.at0, zI q.del, st q.text].toArray 25 (0, 0)), HA.blk b_1' (.cells [zI 0, zI 0, st []].toArray 28 (0, 0))]) (A' := [HA.blk b (.cells [st q.name, st q.lens, st q.view, st q.src, st q.out, zI q.budget, zI q.count, zI q.chunk, zI q.at0, zI q.del, st q.text].toArray 25 (0, 0)), HA.blk b_1' (.cells [zI 0, zI 0, st []].toArray 28 (0, 0))]) (Rest := [HA.blk b_3' (.cells (psC w b_2' q).toArray 47 (0, 0)), cnt Tryd.prog 5 3 b_2' sl]) [3, 2, 0, 1] rfl rfl afk (ah5 b b_1' q.name q.lens q.view q.src q.out q.budget q.count q.chunk q.at0 q.del q.text 0 0 ([] : List UInt8)) (by intro hx; cases hx) rfl trivial [] rfl rfl (.inl ⟨_, _, _, _, _, _, _, _, _, _, _, _, _, _, h, rfl⟩) (l7.of2 rfl (RV.row rfl (At.own 0 rfl) v8) (RV.row rfl (At.own 1 rfl) aar)))
 ·rcases hS with ⟨q, sl, hc, ho⟩ | ⟨at0, why, q_1', sl_1', hc, ho⟩ <;> cases ho
  replace h := h.2 at0 why q_1' sl_1' hc
  exact hE.pan (aio (A := [HA.blk b (.cells [st [], st [], st [], st [], st [], zI 0, zI 0, zI 0, zI 0, zI 0, st []].toArray 25 (0, 0)), HA.blk b_1' (.cells [zI 0, zI 0, st []].toArray 28 (0, 0))]) (A' := [HA.blk b (.cells [st [], st [], st [], st [], st [], zI 0, zI 0, zI 0, zI 0, zI 0, st []].toArray 25 (0, 0)), HA.blk b_1' (.cells [zI 140, zI at0, st why].toArray 28 (0, 0))]) (Rest := [HA.blk b_3' (.cells (psC w b_2' q_1').toArray 47 (0, 0)), cnt Tryd.prog 5 3 b_2' sl_1']) [3, 2, 0, 1] rfl rfl afk (aia b b_1' ([] : List UInt8) ([] : List UInt8) ([] : List UInt8) ([] : List UInt8) ([] : List UInt8) 0 0 0 0 0 ([] : List UInt8) 0 0 ([] : List UInt8) 140 at0 why) (by intro hx; cases hx) rfl trivial [] rfl rfl (.inl ⟨_, _, _, _, _, _, _, _, _, _, _, _, _, _, h, rfl⟩) (l7.of2 rfl (RV.row rfl (At.own 0 rfl) v8) (RV.row rfl (At.own 1 rfl) aar)))
theorem acq (te : TypeId) (fre : Nat × Nat) (wa : Value) (av : List Bs) (h : AvB av) (R : List (Nat × Obj)) (hR : w8 wa R av.length (av.flatMap j3)) :
  j8 Tryd.prog 7 [wa] (R ++ adg te fre) [] (Ret (.tuple #[.agg [st (b6 av).1, st (b6 av).2.1, st (b6 av).2.2.1, st (b6 av).2.2.2.1, st (b6 av).2.2.2.2.1, zI (b6 av).2.2.2.2.2.1, zI (b6 av).2.2.2.2.2.2.1, zI (b6 av).2.2.2.2.2.2.2.1, zI (b6 av).2.2.2.2.2.2.2.2.1, zI (b6 av).2.2.2.2.2.2.2.2.2.1, st (b6 av).2.2.2.2.2.2.2.2.2.2].toArray, .agg [.int .i64 (m4 av).1, .int .i64 (m4 av).2.1, st (m4 av).2.2].toArray]) []) := by
 refine (ako wa te fre av R hR (fun c0 c1 c2 c3 c4 c5 c6 c7 c8 c9 c10 x y z => ((c0, c1, c2, c3, c4, c5, c6, c7, c8, c9, c10) : CmT) = b6 av ∧ (x, y, z) = m4 av) ?_).weak ?_
 ·unfold aef
  refine ⟨⟨h, rfl, rfl⟩, ?_, ?_⟩
  ·intro q sl hq
   have hq' : w9 av ps0 = .ok q := hq
   refine ⟨?_, ?_⟩
   ·unfold b6; rw [hq']; rfl
   ·unfold m4; rw [hq']
  ·intro e why q sl hq
   have hq' : w9 av ps0 = .error (e, why) := hq
   refine ⟨?_, ?_⟩
   ·unfold b6; rw [hq']; rfl
   ·unfold m4; rw [hq']
 ·rintro o (⟨c0, c1, c2, c3, c4, c5, c6, c7, c8, c9, c10, x, y, z, ⟨h1, h2⟩, rfl⟩ | h)
  ·rw [← h1, ← h2]; rfl
  ·exact h.elim
end Go.Proofs.YtaaepdlajkdneaaDoor
set_option maxRecDepth 100000
namespace Go.Proofs.YtaaepdlajkdneaaDoor
open Go Go.RowKit
theorem ad3 : p9 Tryd.prog 7 = true := by kernel_rfl
theorem acg : y6 Tryd.prog 26 = true := by kernel_rfl
theorem abc : Program.stoodInHeld Tryd.prog 28 = false := by kernel_rfl
theorem ac5 : Program.eqGuardType Tryd.prog Tryd.prog.depth 28 = false := by kernel_rfl
theorem adk : Program.stoodInHeld Tryd.prog 25 = false := by kernel_rfl
theorem ae5 : Program.eqGuardType Tryd.prog Tryd.prog.depth 25 = false := by kernel_rfl
theorem ajt : (Tryd.prog.underlying 3).isSome = true := by kernel_rfl
theorem aas : slB Tryd.prog 51 5 1 = true := by kernel_rfl
theorem alb : p9 Tryd.prog 6 = true := by kernel_rfl
def acy  (K : Bool → Prop) : Prop :=
 (AvB [([103, 101, 116] : List UInt8), ([45, 98, 57] : List UInt8), ([108] : List UInt8), ([115] : List UInt8)]) ∧
 K ((o8 [decide ((m4 [([103, 101, 116] : List UInt8), ([45, 98, 57] : List UInt8), ([108] : List UInt8), ([115] : List UInt8)]).1 = 0), decide ((m4 [([103, 101, 116] : List UInt8), ([45, 98, 57] : List UInt8), ([108] : List UInt8), ([115] : List UInt8)]).2.1 = 0), decide ((m4 [([103, 101, 116] : List UInt8), ([45, 98, 57] : List UInt8), ([108] : List UInt8), ([115] : List UInt8)]).2.2 = [])]) && (o8 [decide ((b6 [([103, 101, 116] : List UInt8), ([45, 98, 57] : List UInt8), ([108] : List UInt8), ([115] : List UInt8)]).1 = ([103, 101, 116] : List UInt8)), decide ((b6 [([103, 101, 116] : List UInt8), ([45, 98, 57] : List UInt8), ([108] : List UInt8), ([115] : List UInt8)]).2.1 = ([108] : List UInt8)), decide ((b6 [([103, 101, 116] : List UInt8), ([45, 98, 57] : List UInt8), ([108] : List UInt8), ([115] : List UInt8)]).2.2.1 = []), decide ((b6 [([103, 101, 116] : List UInt8), ([45, 98, 57] : List UInt8), ([108] : List UInt8), ([115] : List UInt8)]).2.2.2.1 = ([115] : List UInt8)), decide ((b6 [([103, 101, 116] : List UInt8), ([45, 98, 57] : List UInt8), ([108] : List UInt8), ([115] : List UInt8)]).2.2.2.2.1 = []), decide ((b6 [([103, 101, 116] : List UInt8), ([45, 98, 57] : List UInt8), ([108] : List UInt8), ([115] : List UInt8)]).2.2.2.2.2.1 = 9), decide ((b6 [([103, 101, 116] : List UInt8), ([45, 98, 57] : List UInt8), ([108] : List UInt8), ([115] : List UInt8)]).2.2.2.2.2.2.1 = 0), decide ((b6 [([103, 101, 116] : List UInt8), ([45, 98, 57] : List UInt8), ([108] : List UInt8), ([115] : List UInt8)]).2.2.2.2.2.2.2.1 = 0), decide ((b6 [([103, 101, 116] : List UInt8), ([45, 98, 57] : List UInt8), ([108] : List UInt8), ([115] : List UInt8)]).2.2.2.2.2.2.2.2.1 = 0), decide ((b6 [([103, 101, 116] : List UInt8), ([45, 98, 57] : List UInt8), ([108] : List UInt8), ([115] : List UInt8)]).2.2.2.2.2.2.2.2.2.1 = 0), decide ((b6 [([103, 101, 116] : List UInt8), ([45, 98, 57] : List UInt8), ([108] : List UInt8), ([115] : List UInt8)]).2.2.2.2.2.2.2.2.2.2 = [])]))
theorem ai2 (te : TypeId) (fre : Nat × Nat)  (K : Bool → Prop) (h : acy  K) :
  j8 Tryd.prog 6 [] [(0, .cells [st ([99, 104, 101, 99, 107] : List UInt8), st ([108] : List UInt8), st ([98] : List UInt8), st ([99, 111, 100, 101] : List UInt8), st ([108] : List UInt8), st ([98] : List UInt8), st ([119, 111, 114, 100, 115] : List UInt8), st ([108] : List UInt8), st ([98, 110] : List UInt8), st ([103, 101, 116] : List UInt8), st ([108, 115] : List UInt8), st ([98, 111] : List UInt8), st ([99, 97, 110, 111, 110] : List UInt8), st ([108, 115] : List UInt8), st ([98, 111] : List UInt8), st ([119, 104, 101, 114, 101] : List UInt8), st ([108, 115] : List UInt8), st ([98] : List UInt8), st ([115, 116, 114, 101, 97, 109] : List UInt8), st ([108, 115] : List UInt8), st ([98, 99] : List UInt8), st ([99, 114, 101, 97, 116, 101] : List UInt8), st ([108, 118] : List UInt8), st ([98, 111] : List UInt8), st ([112, 117, 116] : List UInt8), st ([108, 118, 115] : List UInt8), st ([98, 111] : List UInt8), st ([101, 100, 105, 116] : List UInt8), st ([108, 115, 97, 100, 116] : List UInt8), st ([98, 111] : List UInt8)].toArray te fre)] [] (fun o => (∃ (v : Bool), K v ∧ o = .ret (zB v) []) ∨ (False)) := by
 unfold acy at h
 refine g9 (n := 16) (L0 := []) Tryd.func6 rfl rfl rfl rfl (fun w0 M Q hE => ?_)
 refine a7 (fun _ hK => ?_)
 refine a6 ?_
 refine wA ?_
 refine WL.nil ?_
 refine KX.go (hK [] _ ?_) trivial
 refine a7 (fun _ hK_1' => ?_)
 refine a6 ?_
 refine WL.make (MV.buildSlice (cs := [st ([103, 101, 116] : List UInt8), st ([45, 98, 57] : List UInt8), st ([108] : List UInt8), st ([115] : List UInt8)]) rfl f0 (by kernel_rfl)) rfl rfl rfl (fun b => ?_)
 refine WL.asRow (f := j3) (ms := [([103, 101, 116] : List UInt8), ([45, 98, 57] : List UInt8), ([108] : List UInt8), ([115] : List UInt8)]) 0 rfl rfl rfl i6 rfl ?_
 obtain ⟨o, h⟩ := h
 refine WL.call1 (A := []) ad3 rfl (acq te fre (Value.slice (some ⟨b, 0, none⟩) 4 4) [([103, 101, 116] : List UInt8), ([45, 98, 57] : List UInt8), ([108] : List UInt8), ([115] : List UInt8)] o) rfl (LOk.row 0 rfl) ⟨.inr (List.mem_of_getElem? (i := 0) rfl), trivial⟩ rfl rfl ?_
 refine wm ?_
 refine wv (OV.extract 0 rfl rfl) ?_
 refine wv (OV.extract 1 rfl rfl) ?_
 refine WL.make (MV.alloc aa1) rfl rfl rfl (fun b_1' => ?_)
 refine WL.make (MV.alloc aa5) rfl rfl rfl (fun b_2' => ?_)
 refine WL.storeW (vs := [st ((b6 [([103, 101, 116] : List UInt8), ([45, 98, 57] : List UInt8), ([108] : List UInt8), ([115] : List UInt8)]).1), st ((b6 [([103, 101, 116] : List UInt8), ([45, 98, 57] : List UInt8), ([108] : List UInt8), ([115] : List UInt8)]).2.1), st ((b6 [([103, 101, 116] : List UInt8), ([45, 98, 57] : List UInt8), ([108] : List UInt8), ([115] : List UInt8)]).2.2.1), st ((b6 [([103, 101, 116] : List UInt8), ([45, 98, 57] : List UInt8), ([108] : List UInt8), ([115] : List UInt8)]).2.2.2.1), st ((b6 [([103, 101, 116] : List UInt8), ([45, 98, 57] : List UInt8), ([108] : List UInt8), ([115] : List UInt8)]).2.2.2.2.1), zI ((b6 [([103, 101, 116] : List UInt8), ([45, 98, 57] : List UInt8), ([108] : List UInt8), ([115] : List UInt8)]).2.2.2.2.2.1), zI ((b6 [([103, 101, 116] : List UInt8), ([45, 98, 57] : List UInt8), ([108] : List UInt8), ([115] : List UInt8)]).2.2.2.2.2.2.1), zI ((b6 [([103, 101, 116] : List UInt8), ([45, 98, 57] : List UInt8), ([108] : List UInt8), ([115] : List UInt8)]).2.2.2.2.2.2.2.1), zI ((b6 [([103, 101, 116] : List UInt8), ([45, 98, 57] : List UInt8), ([108] : List UInt8), ([115] : List UInt8)]).2.2.2.2.2.2.2.2.1), zI ((b6 [([103, 101, 116] : List UInt8), ([45, 98, 57] : List UInt8), ([108] : List UInt8), ([115] : List UInt8)]).2.2.2.2.2.2.2.2.2.1), st ((b6 [([103, 101, 116] : List UInt8), ([45, 98, 57] : List UInt8), ([108] : List UInt8), ([115] : List UInt8)]).2.2.2.2.2.2.2.2.2.2)]) 1 rfl rfl rfl rfl rfl y7 rfl rfl rfl ?_
 refine WL.storeW (vs := [zI ((m4 [([103, 101, 116] : List UInt8), ([45, 98, 57] : List UInt8), ([108] : List UInt8), ([115] : List UInt8)]).1), zI ((m4 [([103, 101, 116] : List UInt8), ([45, 98, 57] : List UInt8), ([108] : List UInt8), ([115] : List UInt8)]).2.1), st ((m4 [([103, 101, 116] : List UInt8), ([45, 98, 57] : List UInt8), ([108] : List UInt8), ([115] : List UInt8)]).2.2)]) 0 rfl rfl rfl rfl rfl y9 rfl rfl rfl ?_
 refine WL.nil ?_
 refine kg (hK_1' [(1, zP b_1'), (2, zP b_2')] _ ?_)
 refine a7 (fun _ hK_2' => ?_)
 refine a6 ?_
 refine wv (OV.loadR rfl (At.own 0 rfl) aar) ?_
 refine wv (OV.build rfl (cs := [zI 0, zI 0, st []]) rfl) ?_
 refine wv (OV.eqlF (rs := [decide ((m4 [([103, 101, 116] : List UInt8), ([45, 98, 57] : List UInt8), ([108] : List UInt8), ([115] : List UInt8)]).1 = 0), decide ((m4 [([103, 101, 116] : List UInt8), ([45, 98, 57] : List UInt8), ([108] : List UInt8), ([115] : List UInt8)]).2.1 = 0), decide ((m4 [([103, 101, 116] : List UInt8), ([45, 98, 57] : List UInt8), ([108] : List UInt8), ([115] : List UInt8)]).2.2 = [])]) rfl rfl Tryd.underlying28 abc ac5 ⟨rfl, acg, ⟨_, _, rfl, rfl, m7.int Tryd.underlying26⟩, ⟨rfl, g8, ⟨_, _, rfl, rfl, m7.int Tryd.underlying3⟩, ⟨rfl, f7, ⟨_, _, rfl, rfl, m7.str Tryd.underlying9⟩, trivial⟩⟩⟩) ?_
 refine wm ?_
 refine WL.cut 4 [(15, zB ((o8 [decide ((m4 [([103, 101, 116] : List UInt8), ([45, 98, 57] : List UInt8), ([108] : List UInt8), ([115] : List UInt8)]).1 = 0), decide ((m4 [([103, 101, 116] : List UInt8), ([45, 98, 57] : List UInt8), ([108] : List UInt8), ([115] : List UInt8)]).2.1 = 0), decide ((m4 [([103, 101, 116] : List UInt8), ([45, 98, 57] : List UInt8), ([108] : List UInt8), ([115] : List UInt8)]).2.2 = [])]) && (o8 [decide ((b6 [([103, 101, 116] : List UInt8), ([45, 98, 57] : List UInt8), ([108] : List UInt8), ([115] : List UInt8)]).1 = ([103, 101, 116] : List UInt8)), decide ((b6 [([103, 101, 116] : List UInt8), ([45, 98, 57] : List UInt8), ([108] : List UInt8), ([115] : List UInt8)]).2.1 = ([108] : List UInt8)), decide ((b6 [([103, 101, 116] : List UInt8), ([45, 98, 57] : List UInt8), ([108] : List UInt8), ([115] : List UInt8)]).2.2.1 = []), decide ((b6 [([103, 101, 116] : List UInt8), ([45, 98, 57] : List UInt8), ([108] : List UInt8), ([115] : List UInt8)]).2.2.2.1 = ([115] : List UInt8)), decide ((b6 [([103, 101, 116] : List UInt8), ([45, 98, 57] : List UInt8), ([108] : List UInt8), ([115] : List UInt8)]).2.2.2.2.1 = []), decide ((b6 [([103, 101, 116] : List UInt8), ([45, 98, 57] : List UInt8), ([108] : List UInt8), ([115] : List UInt8)]).2.2.2.2.2.1 = 9), decide ((b6 [([103, 101, 116] : List UInt8), ([45, 98, 57] : List UInt8), ([108] : List UInt8), ([115] : List UInt8)]).2.2.2.2.2.2.1 = 0), decide ((b6 [([103, 101, 116] : List UInt8), ([45, 98, 57] : List UInt8), ([108] : List UInt8), ([115] : List UInt8)]).2.2.2.2.2.2.2.1 = 0), decide ((b6 [([103, 101, 116] : List UInt8), ([45, 98, 57] : List UInt8), ([108] : List UInt8), ([115] : List UInt8)]).2.2.2.2.2.2.2.2.1 = 0), decide ((b6 [([103, 101, 116] : List UInt8), ([45, 98, 57] : List UInt8), ([108] : List UInt8), ([115] : List UInt8)]).2.2.2.2.2.2.2.2.2.1 = 0), decide ((b6 [([103, 101, 116] : List UInt8), ([45, 98, 57] : List UInt8), ([108] : List UInt8), ([115] : List UInt8)]).2.2.2.2.2.2.2.2.2.2 = [])])))] ?_ (fun K0_3' hK_3' => ?_)
 rotate_left
 ·refine WL.split (o8 [decide ((m4 [([103, 101, 116] : List UInt8), ([45, 98, 57] : List UInt8), ([108] : List UInt8), ([115] : List UInt8)]).1 = 0), decide ((m4 [([103, 101, 116] : List UInt8), ([45, 98, 57] : List UInt8), ([108] : List UInt8), ([115] : List UInt8)]).2.1 = 0), decide ((m4 [([103, 101, 116] : List UInt8), ([45, 98, 57] : List UInt8), ([108] : List UInt8), ([115] : List UInt8)]).2.2 = [])]) (fun hb => ?_) (fun hb => ?_)
  ·refine WL.set 11 rfl (congrArg zB hb) ?_
   refine wv (OV.loadR rfl (At.own 1 rfl) v8) ?_
   refine wv (OV.build rfl (cs := [st ([103, 101, 116] : List UInt8), st ([108] : List UInt8), st [], st ([115] : List UInt8), st [], zI 9, zI 0, zI 0, zI 0, zI 0, st []]) rfl) ?_
   refine wv (OV.eqlF (rs := [decide ((b6 [([103, 101, 116] : List UInt8), ([45, 98, 57] : List UInt8), ([108] : List UInt8), ([115] : List UInt8)]).1 = ([103, 101, 116] : List UInt8)), decide ((b6 [([103, 101, 116] : List UInt8), ([45, 98, 57] : List UInt8), ([108] : List UInt8), ([115] : List UInt8)]).2.1 = ([108] : List UInt8)), decide ((b6 [([103, 101, 116] : List UInt8), ([45, 98, 57] : List UInt8), ([108] : List UInt8), ([115] : List UInt8)]).2.2.1 = []), decide ((b6 [([103, 101, 116] : List UInt8), ([45, 98, 57] : List UInt8), ([108] : List UInt8), ([115] : List UInt8)]).2.2.2.1 = ([115] : List UInt8)), decide ((b6 [([103, 101, 116] : List UInt8), ([45, 98, 57] : List UInt8), ([108] : List UInt8), ([115] : List UInt8)]).2.2.2.2.1 = []), decide ((b6 [([103, 101, 116] : List UInt8), ([45, 98, 57] : List UInt8), ([108] : List UInt8), ([115] : List UInt8)]).2.2.2.2.2.1 = 9), decide ((b6 [([103, 101, 116] : List UInt8), ([45, 98, 57] : List UInt8), ([108] : List UInt8), ([115] : List UInt8)]).2.2.2.2.2.2.1 = 0), decide ((b6 [([103, 101, 116] : List UInt8), ([45, 98, 57] : List UInt8), ([108] : List UInt8), ([115] : List UInt8)]).2.2.2.2.2.2.2.1 = 0), decide ((b6 [([103, 101, 116] : List UInt8), ([45, 98, 57] : List UInt8), ([108] : List UInt8), ([115] : List UInt8)]).2.2.2.2.2.2.2.2.1 = 0), decide ((b6 [([103, 101, 116] : List UInt8), ([45, 98, 57] : List UInt8), ([108] : List UInt8), ([115] : List UInt8)]).2.2.2.2.2.2.2.2.2.1 = 0), decide ((b6 [([103, 101, 116] : List UInt8), ([45, 98, 57] : List UInt8), ([108] : List UInt8), ([115] : List UInt8)]).2.2.2.2.2.2.2.2.2.2 = [])]) rfl rfl Tryd.underlying25 adk ae5 ⟨rfl, f7, ⟨_, _, rfl, rfl, m7.str Tryd.underlying9⟩, ⟨rfl, f7, ⟨_, _, rfl, rfl, m7.str Tryd.underlying9⟩, ⟨rfl, f7, ⟨_, _, rfl, rfl, m7.str Tryd.underlying9⟩, ⟨rfl, f7, ⟨_, _, rfl, rfl, m7.str Tryd.underlying9⟩, ⟨rfl, f7, ⟨_, _, rfl, rfl, m7.str Tryd.underlying9⟩, ⟨rfl, g8, ⟨_, _, rfl, rfl, m7.int Tryd.underlying3⟩, ⟨rfl, g8, ⟨_, _, rfl, rfl, m7.int Tryd.underlying3⟩, ⟨rfl, g8, ⟨_, _, rfl, rfl, m7.int Tryd.underlying3⟩, ⟨rfl, g8, ⟨_, _, rfl, rfl, m7.int Tryd.underlying3⟩, ⟨rfl, g8, ⟨_, _, rfl, rfl, m7.int Tryd.underlying3⟩, ⟨rfl, f7, ⟨_, _, rfl, rfl, m7.str Tryd.underlying9⟩, trivial⟩⟩⟩⟩⟩⟩⟩⟩⟩⟩⟩) ?_
   refine wv (OV.pickT rfl rfl) ?_
   refine WL.set 15 rfl (bT (v := o8 [decide ((b6 [([103, 101, 116] : List UInt8), ([45, 98, 57] : List UInt8), ([108] : List UInt8), ([115] : List UInt8)]).1 = ([103, 101, 116] : List UInt8)), decide ((b6 [([103, 101, 116] : List UInt8), ([45, 98, 57] : List UInt8), ([108] : List UInt8), ([115] : List UInt8)]).2.1 = ([108] : List UInt8)), decide ((b6 [([103, 101, 116] : List UInt8), ([45, 98, 57] : List UInt8), ([108] : List UInt8), ([115] : List UInt8)]).2.2.1 = []), decide ((b6 [([103, 101, 116] : List UInt8), ([45, 98, 57] : List UInt8), ([108] : List UInt8), ([115] : List UInt8)]).2.2.2.1 = ([115] : List UInt8)), decide ((b6 [([103, 101, 116] : List UInt8), ([45, 98, 57] : List UInt8), ([108] : List UInt8), ([115] : List UInt8)]).2.2.2.2.1 = []), decide ((b6 [([103, 101, 116] : List UInt8), ([45, 98, 57] : List UInt8), ([108] : List UInt8), ([115] : List UInt8)]).2.2.2.2.2.1 = 9), decide ((b6 [([103, 101, 116] : List UInt8), ([45, 98, 57] : List UInt8), ([108] : List UInt8), ([115] : List UInt8)]).2.2.2.2.2.2.1 = 0), decide ((b6 [([103, 101, 116] : List UInt8), ([45, 98, 57] : List UInt8), ([108] : List UInt8), ([115] : List UInt8)]).2.2.2.2.2.2.2.1 = 0), decide ((b6 [([103, 101, 116] : List UInt8), ([45, 98, 57] : List UInt8), ([108] : List UInt8), ([115] : List UInt8)]).2.2.2.2.2.2.2.2.1 = 0), decide ((b6 [([103, 101, 116] : List UInt8), ([45, 98, 57] : List UInt8), ([108] : List UInt8), ([115] : List UInt8)]).2.2.2.2.2.2.2.2.2.1 = 0), decide ((b6 [([103, 101, 116] : List UInt8), ([45, 98, 57] : List UInt8), ([108] : List UInt8), ([115] : List UInt8)]).2.2.2.2.2.2.2.2.2.2 = [])]) hb) ?_
   exact WL.end_ (kg hK_3')
  ·refine WL.set 11 rfl (congrArg zB hb) ?_
   refine wk ?_
   refine wk ?_
   refine wk ?_
   refine wv (OV.pickF rfl rfl) ?_
   refine WL.set 15 rfl (bF (v := o8 [decide ((b6 [([103, 101, 116] : List UInt8), ([45, 98, 57] : List UInt8), ([108] : List UInt8), ([115] : List UInt8)]).1 = ([103, 101, 116] : List UInt8)), decide ((b6 [([103, 101, 116] : List UInt8), ([45, 98, 57] : List UInt8), ([108] : List UInt8), ([115] : List UInt8)]).2.1 = ([108] : List UInt8)), decide ((b6 [([103, 101, 116] : List UInt8), ([45, 98, 57] : List UInt8), ([108] : List UInt8), ([115] : List UInt8)]).2.2.1 = []), decide ((b6 [([103, 101, 116] : List UInt8), ([45, 98, 57] : List UInt8), ([108] : List UInt8), ([115] : List UInt8)]).2.2.2.1 = ([115] : List UInt8)), decide ((b6 [([103, 101, 116] : List UInt8), ([45, 98, 57] : List UInt8), ([108] : List UInt8), ([115] : List UInt8)]).2.2.2.2.1 = []), decide ((b6 [([103, 101, 116] : List UInt8), ([45, 98, 57] : List UInt8), ([108] : List UInt8), ([115] : List UInt8)]).2.2.2.2.2.1 = 9), decide ((b6 [([103, 101, 116] : List UInt8), ([45, 98, 57] : List UInt8), ([108] : List UInt8), ([115] : List UInt8)]).2.2.2.2.2.2.1 = 0), decide ((b6 [([103, 101, 116] : List UInt8), ([45, 98, 57] : List UInt8), ([108] : List UInt8), ([115] : List UInt8)]).2.2.2.2.2.2.2.1 = 0), decide ((b6 [([103, 101, 116] : List UInt8), ([45, 98, 57] : List UInt8), ([108] : List UInt8), ([115] : List UInt8)]).2.2.2.2.2.2.2.2.1 = 0), decide ((b6 [([103, 101, 116] : List UInt8), ([45, 98, 57] : List UInt8), ([108] : List UInt8), ([115] : List UInt8)]).2.2.2.2.2.2.2.2.2.1 = 0), decide ((b6 [([103, 101, 116] : List UInt8), ([45, 98, 57] : List UInt8), ([108] : List UInt8), ([115] : List UInt8)]).2.2.2.2.2.2.2.2.2.2 = [])]) hb) ?_
   exact WL.end_ (kg hK_3')
 refine wA ?_
 refine WL.nil ?_
 refine kg (hK_2' [(0, zB ((o8 [decide ((m4 [([103, 101, 116] : List UInt8), ([45, 98, 57] : List UInt8), ([108] : List UInt8), ([115] : List UInt8)]).1 = 0), decide ((m4 [([103, 101, 116] : List UInt8), ([45, 98, 57] : List UInt8), ([108] : List UInt8), ([115] : List UInt8)]).2.1 = 0), decide ((m4 [([103, 101, 116] : List UInt8), ([45, 98, 57] : List UInt8), ([108] : List UInt8), ([115] : List UInt8)]).2.2 = [])]) && (o8 [decide ((b6 [([103, 101, 116] : List UInt8), ([45, 98, 57] : List UInt8), ([108] : List UInt8), ([115] : List UInt8)]).1 = ([103, 101, 116] : List UInt8)), decide ((b6 [([103, 101, 116] : List UInt8), ([45, 98, 57] : List UInt8), ([108] : List UInt8), ([115] : List UInt8)]).2.1 = ([108] : List UInt8)), decide ((b6 [([103, 101, 116] : List UInt8), ([45, 98, 57] : List UInt8), ([108] : List UInt8), ([115] : List UInt8)]).2.2.1 = []), decide ((b6 [([103, 101, 116] : List UInt8), ([45, 98, 57] : List UInt8), ([108] : List UInt8), ([115] : List UInt8)]).2.2.2.1 = ([115] : List UInt8)), decide ((b6 [([103, 101, 116] : List UInt8), ([45, 98, 57] : List UInt8), ([108] : List UInt8), ([115] : List UInt8)]).2.2.2.2.1 = []), decide ((b6 [([103, 101, 116] : List UInt8), ([45, 98, 57] : List UInt8), ([108] : List UInt8), ([115] : List UInt8)]).2.2.2.2.2.1 = 9), decide ((b6 [([103, 101, 116] : List UInt8), ([45, 98, 57] : List UInt8), ([108] : List UInt8), ([115] : List UInt8)]).2.2.2.2.2.2.1 = 0), decide ((b6 [([103, 101, 116] : List UInt8), ([45, 98, 57] : List UInt8), ([108] : List UInt8), ([115] : List UInt8)]).2.2.2.2.2.2.2.1 = 0), decide ((b6 [([103, 101, 116] : List UInt8), ([45, 98, 57] : List UInt8), ([108] : List UInt8), ([115] : List UInt8)]).2.2.2.2.2.2.2.2.1 = 0), decide ((b6 [([103, 101, 116] : List UInt8), ([45, 98, 57] : List UInt8), ([108] : List UInt8), ([115] : List UInt8)]).2.2.2.2.2.2.2.2.2.1 = 0), decide ((b6 [([103, 101, 116] : List UInt8), ([45, 98, 57] : List UInt8), ([108] : List UInt8), ([115] : List UInt8)]).2.2.2.2.2.2.2.2.2.2 = [])])))] _ ?_)
 refine g7 ?_
 exact hE.ret [] rfl rfl (.inl ⟨_, h, rfl⟩) (l7.of1 rfl (RV.tmp rfl))
theorem amj : w9 [[103, 101, 116], [45, 98, 57], [108], [115]] ps0 = .ok ⟨[103, 101, 116], [108], [], [115], [], 9, 0, 0, 0, 0, [], [103, 101, 116], [108, 115], [98, 111], 4, 2⟩ := by kernel_rfl
theorem ahd (te : TypeId) (fre : Nat × Nat) : j8 Tryd.prog 6 [] (adg te fre) [] (Ret (.bool true) []) := by
 refine j8.one (e := fun v => .bool v) (ai2 te fre (fun v => v = true) ?_)
 unfold acy
 refine ⟨⟨by decide, by decide⟩, ?_⟩
 unfold b6 m4
 rw [amj]
 rfl
def ado (n : Nat) : Bs := if n < 10 then [(48 + n).toUInt8] else ado (n / 10) ++ [(48 + n % 10).toUInt8]
termination_by n
decreasing_by omega
theorem ago : ∀ (k n : Nat), n < 10 ^ (k + 1) → (ado n).length ≤ k + 1
 | 0, n, h => by
  unfold ado
  rw [if_pos (by omega)]; simp
 | k + 1, n, h => by
  unfold ado
  split
  ·simp
  ·rw [List.length_append, List.length_singleton]
   have := ago k (n / 10) (by
    rw [Nat.div_lt_iff_lt_mul (by decide), ← Nat.pow_succ]; exact h)
   omega
theorem akg {m : Nat} (h : m < 10) : y3 (48 + m).toUInt8 = true ∧ (48 + m).toUInt8.toNat - 48 = m := by
 have : (48 + m).toUInt8.toNat = 48 + m := by
  simp; omega
 unfold y3
 rw [this]
 simp; omega
theorem al0 : ∀ n : Nat, (ado n).all y3 = true ∧ acu 0 (ado n) = n ∧ ado n ≠ [] := by
 intro n
 induction n using Nat.strongRecOn with
 | _ n ih =>
  unfold ado
  split
  ·rename_i h
   obtain ⟨h1, h2⟩ := akg h
   refine ⟨by rw [List.all_cons, h1]; rfl, ?_, by simp⟩
   show 0 * 10 + ((48 + n).toUInt8.toNat - 48) = n
   omega
  ·rename_i h
   obtain ⟨i1, i2, i3⟩ := ih (n / 10) (by omega)
   obtain ⟨h1, h2⟩ := akg (m := n % 10) (by omega)
   refine ⟨by rw [List.all_append, i1, List.all_cons, h1]; rfl, ?_, by simp⟩
   unfold acu at i2 ⊢
   rw [List.foldl_append, i2]
   show n / 10 * 10 + ((48 + n % 10).toUInt8.toNat - 48) = n
   omega
section
variable {av : List Bs} {f : Nat} {lens view src out a v : Bs} {bud at1 got : Int} {sl : List Int} {plain : Bool}
theorem ang {q : PS} (h : l8 v = true ∧ 1 ≤ j4 v ∧ j4 v ≤ 4096) : w1 98 v q = (true, { q with budget := j4 v }) := by
 unfold w1
 rw [if_neg (by decide), if_neg (by decide), if_neg (by decide), h.1]
 simp [h.2.1, h.2.2]
theorem am9 {q : PS} (h : v ≠ []) : w1 111 v q = (true, { q with out := v }) := by
 unfold w1
 rw [if_pos rfl]
 simp [h]
theorem amy {q q2 : PS} {sl2 : List Int} (h1 : q.at1 < av.length) (hne : i7 av q.at1 ≠ [45, 45]) (hl : 1 < (i7 av q.at1).length) (hd : ((i7 av q.at1).getD 0 0).toNat = 45) (ho : abf av q sl = .ok (q2, sl2)) : goM av (f + 1) false q sl = goM av f false q2 sl2 := by
 rw [goM, if_pos h1, if_neg (fun h => hne h.2), if_pos ⟨rfl, hl, hd⟩, ho]
def NoD (a : Bs) : Prop := ¬ (0 < a.length ∧ (a.getD 0 0).toNat = 45)
theorem ams {q q2 : PS} (h1 : q.at1 < av.length) (hp : plain = true ∨ NoD (i7 av q.at1)) (ho : abg av q = .ok q2) : goM av (f + 1) plain q sl = goM av f plain q2 sl := by
 rw [goM, if_pos h1, if_neg, if_neg, ho]
 ·rintro ⟨h2, h3, h4⟩
  rcases hp with hp | hp
  ·rw [hp] at h2; cases h2
  ·exact hp ⟨by omega, h4⟩
 ·rintro ⟨h2, h3⟩
  rcases hp with hp | hp
  ·rw [hp] at h2; cases h2
  ·exact hp (by rw [h3]; decide)
end
end Go.Proofs.YtaaepdlajkdneaaDoor
