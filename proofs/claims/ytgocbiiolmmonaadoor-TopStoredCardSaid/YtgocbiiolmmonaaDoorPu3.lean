/-
  Merged: ArP, ArQ, ArO, Gwh, ArR, Gwa, ArE.
-/
import Derived.Laws.RangeString
import Derived.Lib.LaidTab
import Derived.Test.YtgocbiiolmmonaaDoorPu2
set_option maxRecDepth 100000
namespace Go.Proofs.YtgocbiiolmmonaaDoor
open Go Go.RowKit
theorem ahx : Program.concrete Tryd.prog 27 = true := by kernel_rfl
theorem j0 : g7 Tryd.prog 51 0 = some 0 := by kernel_rfl
theorem aae : g7 Tryd.prog 24 4 = some 4 := by kernel_rfl
theorem x9 : p8 Tryd.prog 9 1 = true := by kernel_rfl
theorem z8 : g7 Tryd.prog 24 5 = some 5 := by kernel_rfl
theorem aaa : g7 Tryd.prog 24 6 = some 6 := by kernel_rfl
theorem abm : n9 Tryd.prog 27 = true := by kernel_rfl
theorem m6 : p8 Tryd.prog 3 1 = true := by kernel_rfl
theorem aaf : g7 Tryd.prog 24 7 = some 7 := by kernel_rfl
theorem i6 : g7 Tryd.prog 51 3 = some 15 := by kernel_rfl
theorem d6 : w9 Tryd.prog 3 = true := by kernel_rfl
theorem m4 : g7 Tryd.prog 51 2 = some 14 := by kernel_rfl
theorem p3 : w9 Tryd.prog 22 = true := by kernel_rfl
theorem g9 : slB Tryd.prog 22 9 1 = true := by kernel_rfl
theorem aff : n9 Tryd.prog 25 = true := by kernel_rfl
theorem r6 : n9 Tryd.prog 18 = true := by kernel_rfl
theorem q9 : g7 Tryd.prog 51 1 = some 11 := by kernel_rfl
theorem aad : g7 Tryd.prog 49 2 = some 2 := by kernel_rfl
theorem abw : g7 Tryd.prog 51 4 = some 16 := by kernel_rfl
theorem aef : w9 Tryd.prog 47 = true := by kernel_rfl
theorem abp : CntT Tryd.prog 47 5 3 := ⟨Tryd.underlying47, Tryd.underlying5, Tryd.underlying3, by kernel_rfl⟩
theorem m5 : Tryd.prog.follows .mixedOrders = true := by kernel_rfl
theorem ajn : n9 Tryd.prog 26 = true := by kernel_rfl
theorem r4 : g7 Tryd.prog 51 5 = some 17 := by kernel_rfl
theorem u3 : g7 Tryd.prog 49 1 = some 1 := by kernel_rfl
theorem m8 : g7 Tryd.prog 24 1 = some 1 := by kernel_rfl
theorem ab1 : g7 Tryd.prog 24 2 = some 2 := by kernel_rfl
theorem aag : g7 Tryd.prog 24 3 = some 3 := by kernel_rfl
theorem abf : g7 Tryd.prog 24 10 = some 10 := by kernel_rfl
theorem aby : g7 Tryd.prog 24 8 = some 8 := by kernel_rfl
theorem abv : g7 Tryd.prog 24 9 = some 9 := by kernel_rfl
theorem afg : n9 Tryd.prog 13 = true := by kernel_rfl
theorem w7 : g7 Tryd.prog 24 0 = some 0 := by kernel_rfl
theorem ajj : n9 Tryd.prog 19 = true := by kernel_rfl
theorem ai0 : n9 Tryd.prog 20 = true := by kernel_rfl
structure PS where
 name : Bs
 lens : Bs
 view : Bs
 src : Bs
 out : Bs
 budget : Int
 count : Int
 chunk : Int
 at0 : Int
 del : Int
 text : Bs
 sname : Bs
 sops : Bs
 sopts : Bs
 at1 : Int
 got : Int
def psC (wa : Value) (mb : Nat) (q : PS) : List Value := [st q.name, st q.lens, st q.view, st q.src, st q.out, .int .i64 q.budget, .int .i64 q.count, .int .i64 q.chunk, .int .i64 q.at0, .int .i64 q.del, st q.text, st q.sname, st q.sops, st q.sopts, wa, .int .i64 q.at1, .map (some mb), .int .i64 q.got]
def agu (_ : Value) (at0 : Int) (why : List UInt8) (_ : Prop) (KP : Value → Prop) : Prop :=
 KP (Value.iface 27 (Value.agg [zI 140, zI at0, st why].toArray))
theorem alh  (p : Value) (at0 : Int) (why : List UInt8) (K : Prop) (KP : Value → Prop) (h : agu p at0 why K KP) :
  i7 Tryd.prog 18 [p, zI at0, st why] [] [] (fun o => (K ∧ o = .ret (Value.tuple #[]) []) ∨ (∃ (pv : Value), KP pv ∧ o = .pan [{ v := pv, recovered := false }] [])) := by
 unfold agu at h
 refine d8 (n := 10) (L0 := [(0, p), (1, zI at0), (2, st why)]) Tryd.func18 rfl rfl rfl rfl (fun w0 M Q hE => ?_)
 refine a6 ?_
 refine wm ?_
 refine wm ?_
 refine wv (OV.build rfl (cs := [zI 140, zI at0, st why]) rfl) ?_
 refine wv (OV.iface rfl ahx) ?_
 refine WL.panic rfl rfl ?_
 exact hE.pan [] rfl rfl (.inr ⟨_, h, rfl⟩)
abbrev v7 (e : Int) (why : Bs) : Value := .iface 27 (.agg [zI 140, zI e, st why].toArray)
theorem p4 (p : Value) (e : Int) (why : Bs) : i7 Tryd.prog 18 [p, .int .i64 e, st why] [] [] (fun o => o = .pan [{ v := v7 e why, recovered := false }] []) := by
 refine (alh p e why False (fun v => v = v7 e why) rfl).weak ?_
 rintro o (⟨h, _⟩ | ⟨v, rfl, rfl⟩)
 ·exact h.elim
 ·rfl
def ixB (s : Bs) (c : Int) : Int := Lib.indexByte s c.toNat.toUInt8
theorem adx (s : Bs) (c : Int) (_h : 0 ≤ c ∧ c < 256) : i7 Tryd.prog 25 [st s, .int .u8 c] [] [] (Ret (.int .i64 (ixB s c)) []) :=
 i7.ofPure fun w => (Tryd.strings_IndexByte ⟨s.toArray⟩ c w).mono fun _ _ ⟨h1, h2⟩ => by subst h2; exact ⟨h1, Below.refl _ _⟩
def ahz (q : PS) (_ : List (List UInt8)) (sl : List Int) (letter : Int) (value : List UInt8) (K : Bool → PS → (List Int) → Prop) : Prop :=
 (if (decide (letter = 111)) = true then
  K (!decide (value = [])) ({ q with out := value }) sl
 else
  (if (decide (letter = 110)) = true then
   (value.length ≤ 140737488355328) ∧
   K (((j5 value) && (decide (0 ≤ g8 value))) && (decide (g8 value ≤ 100))) ({ q with count := g8 value }) sl
  else
   (if (decide (letter = 99)) = true then
    (value.length ≤ 140737488355328) ∧
    K (((j5 value) && (decide (1 ≤ g8 value))) && (decide (g8 value ≤ 16384))) ({ q with chunk := g8 value }) sl
   else
    (value.length ≤ 140737488355328) ∧
    K (((j5 value) && (decide (1 ≤ g8 value))) && (decide (g8 value ≤ 4096))) ({ q with budget := g8 value }) sl)))
theorem amz (pb : Nat) (wa : Value) (mb : Nat) (q : PS) (av : List (List UInt8)) (sl : List Int) (letter : Int) (value : List UInt8) (Ri1 : List (Nat × Obj)) (hRi1 : aaq wa Ri1 av.length (av.flatMap m9)) (K : Bool → PS → (List Int) → Prop) (h : ahz q av sl letter value K) :
  i7 Tryd.prog 26 [zP pb, zU letter, st value] (Ri1 ++ []) [HA.blk pb (.cells (psC wa mb q).toArray 51 (0, 0)), cnt Tryd.prog 5 3 mb sl] (fun o => (∃ (v : Bool) (d : PS) (D : List Int), K v d D ∧ o = .ret (zB v) [HA.blk pb (.cells (psC wa mb d).toArray 51 (0, 0)), cnt Tryd.prog 5 3 mb D]) ∨ (False)) := by
 unfold ahz at h
 refine d8 (n := 57) (L0 := [(0, zP pb), (1, zU letter), (2, st value)]) Tryd.func26 rfl rfl rfl rfl (fun w0 M Q hE => ?_)
 have hi1 : LIn ⟨57, [], w0, M, (Ri1 ++ [])⟩ wa av.length (av.flatMap m9) := LIn.mk hRi1 (fun p hp => by simp [hp])
 refine a7 (fun _ hK => ?_)
 refine a6 ?_
 refine wA ?_
 refine WL.nil ?_
 refine kg (hK [(0, zP pb), (1, zU letter), (2, st value)] _ ?_)
 refine a7 (fun _ hK_1' => ?_)
 refine a7 (fun _ hK_2' => ?_)
 refine a6 ?_
 refine wm ?_
 refine wv (OV.eql rfl rfl) ?_
 refine WL.nil ?_
 refine kg (hK_2' [(0, zP pb), (1, zU letter), (2, st value), (13, zB (decide (letter = 111)))] _ ?_)
 refine d4 (b := decide (letter = 111)) rfl (fun hb => ?_) (fun hb => ?_)
 ·replace h := k9 h hb
  refine a7 (fun _ hK_3' => ?_)
  refine a6 ?_
  refine wm ?_
  refine wm ?_
  refine wv (OV.nilCheck rfl) ?_
  refine wv (OV.fieldAddr0 rfl j0) ?_
  refine wv (OV.fieldAddr0 rfl aae) ?_
  refine WL.store (vs := [st value]) (cs' := psC wa mb ({ q with out := value })) 0 rfl rfl rfl rfl x9 (Nat.le_of_ble_eq_true rfl) rfl rfl rfl ?_
  refine WL.nil ?_
  refine kg (hK_3' [(2, st value)] _ ?_)
  refine a7 (fun _ hK_4' => ?_)
  refine a6 ?_
  refine wm ?_
  refine wv (OV.neqS rfl rfl) ?_
  refine wA ?_
  refine WL.nil ?_
  refine kg (hK_4' [(6, zB (!decide (value = [])))] _ ?_)
  refine e7 ?_
  exact hE.ret [0, 1] rfl rfl (.inl ⟨_, _, _, h, rfl⟩) (j6.of1 rfl (RV.tmp rfl))
 ·replace h := l6 h hb
  refine b8 ?_
  refine kg (hK_1' [(0, zP pb), (1, zU letter), (2, st value)] _ ?_)
  refine a7 (fun _ hK_5' => ?_)
  refine a6 ?_
  refine wm ?_
  refine wv (OV.nilCheck rfl) ?_
  refine wv (OV.fieldAddr0 rfl j0) ?_
  refine wv (OV.fieldAddr0 rfl z8) ?_
  refine wA ?_
  refine wA ?_
  refine wA ?_
  refine WL.nil ?_
  refine kg (hK_5' [(0, zP pb), (1, zU letter), (2, st value), (7, Value.pointer (some ⟨pb, 5, none⟩)), (8, zI 1), (9, zI 4096)] _ ?_)
  refine a7 (fun _ hK_6' => ?_)
  refine a7 (fun _ hK_7' => ?_)
  refine a6 ?_
  refine wm ?_
  refine WL.nil ?_
  refine kg (hK_7' [(0, zP pb), (2, st value), (7, Value.pointer (some ⟨pb, 5, none⟩)), (8, zI 1), (9, zI 4096), (25, zU letter)] _ ?_)
  refine d7 ?_
  refine a7 (fun _ hK_8' => ?_)
  refine a6 ?_
  refine wv (OV.eql rfl rfl) ?_
  refine wA ?_
  refine WL.nil ?_
  refine kg (hK_8' [(0, zP pb), (2, st value), (7, Value.pointer (some ⟨pb, 5, none⟩)), (8, zI 1), (9, zI 4096), (25, zU letter), (26, zB (decide (letter = 110)))] _ ?_)
  refine d4 (b := decide (letter = 110)) rfl (fun hb => ?_) (fun hb => ?_)
  ·replace h := k9 h hb
   refine a6 ?_
   refine wm ?_
   refine wv (OV.nilCheck rfl) ?_
   refine wv (OV.fieldAddr0 rfl j0) ?_
   refine wv (OV.fieldAddr0 rfl aaa) ?_
   refine wA ?_
   refine wA ?_
   refine wA ?_
   refine WL.nil ?_
   refine kg (hK_6' [(2, st value), (7, Value.pointer (some ⟨pb, 6, none⟩)), (8, zI 0), (9, zI 100)] _ ?_)
   refine a7 (fun _ hK_9' => ?_)
   refine a6 ?_
   refine wm ?_
   obtain ⟨o, h⟩ := h
   refine WL.call (A := []) abm rfl (y9 value o) rfl trivial rfl rfl ?_
   refine wm ?_
   refine wv (OV.extract 0 rfl rfl) ?_
   refine wv (OV.extract 1 rfl rfl) ?_
   refine wA ?_
   refine wA ?_
   refine WL.nil ?_
   refine kg (hK_9' [(7, Value.pointer (some ⟨pb, 6, none⟩)), (8, zI 0), (9, zI 100), (10, zI (g8 value)), (11, zB (j5 value))] _ ?_)
   refine a7 (fun _ hK_10' => ?_)
   refine a6 ?_
   refine wm ?_
   refine wm ?_
   refine wv (OV.nilCheck rfl) ?_
   refine WL.store (vs := [zI (g8 value)]) (cs' := psC wa mb ({ q with count := g8 value })) 0 rfl rfl rfl rfl m6 (Nat.le_of_ble_eq_true rfl) rfl rfl rfl ?_
   refine WL.nil ?_
   refine kg (hK_10' [(8, zI 0), (9, zI 100), (10, zI (g8 value)), (11, zB (j5 value))] _ ?_)
   refine a7 (fun _ hK_11' => ?_)
   refine a6 ?_
   refine wm ?_
   refine wm ?_
   refine WL.cut 4 [(9, zI 100), (10, zI (g8 value)), (51, zB ((j5 value) && (decide (0 ≤ g8 value))))] ?_ (fun K0_12' hK_12' => ?_)
   rotate_left
   ·refine WL.split (j5 value) (fun hb => ?_) (fun hb => ?_)
    ·refine WL.set 47 rfl (congrArg zB hb) ?_
     refine wm ?_
     refine wm ?_
     refine wv (OV.geq rfl rfl) ?_
     refine wv (OV.pickT rfl rfl) ?_
     refine WL.set 51 rfl (bT (v := decide (0 ≤ g8 value)) hb) ?_
     exact WL.end_ (kg hK_12')
    ·refine WL.set 47 rfl (congrArg zB hb) ?_
     refine wk ?_
     refine wk ?_
     refine wk ?_
     refine wv (OV.pickF rfl rfl) ?_
     refine WL.set 51 rfl (bF (v := decide (0 ≤ g8 value)) hb) ?_
     exact WL.end_ (kg hK_12')
   refine wm ?_
   refine WL.cut 4 [(56, zB (((j5 value) && (decide (0 ≤ g8 value))) && (decide (g8 value ≤ 100))))] ?_ (fun K0_13' hK_13' => ?_)
   rotate_left
   ·refine WL.split ((j5 value) && (decide (0 ≤ g8 value))) (fun hb => ?_) (fun hb => ?_)
    ·refine WL.set 52 rfl (congrArg zB hb) ?_
     refine wm ?_
     refine wm ?_
     refine wv (OV.leq rfl rfl) ?_
     refine wv (OV.pickT rfl rfl) ?_
     refine WL.set 56 rfl (bT (v := decide (g8 value ≤ 100)) hb) ?_
     exact WL.end_ (kg hK_13')
    ·refine WL.set 52 rfl (congrArg zB hb) ?_
     refine wk ?_
     refine wk ?_
     refine wk ?_
     refine wv (OV.pickF rfl rfl) ?_
     refine WL.set 56 rfl (bF (v := decide (g8 value ≤ 100)) hb) ?_
     exact WL.end_ (kg hK_13')
   refine wA ?_
   refine WL.nil ?_
   refine kg (hK_11' [(6, zB (((j5 value) && (decide (0 ≤ g8 value))) && (decide (g8 value ≤ 100))))] _ ?_)
   refine e7 ?_
   exact hE.ret [0, 1] rfl rfl (.inl ⟨_, _, _, h, rfl⟩) (j6.of1 rfl (RV.tmp rfl))
  ·replace h := l6 h hb
   refine a7 (fun _ hK_14' => ?_)
   refine a6 ?_
   refine wv (OV.eql rfl rfl) ?_
   refine wA ?_
   refine WL.nil ?_
   refine kg (hK_14' [(0, zP pb), (2, st value), (7, Value.pointer (some ⟨pb, 5, none⟩)), (8, zI 1), (9, zI 4096), (32, zB (decide (letter = 99)))] _ ?_)
   refine d4 (b := decide (letter = 99)) rfl (fun hb => ?_) (fun hb => ?_)
   ·replace h := k9 h hb
    refine a6 ?_
    refine wm ?_
    refine wv (OV.nilCheck rfl) ?_
    refine wv (OV.fieldAddr0 rfl j0) ?_
    refine wv (OV.fieldAddr0 rfl aaf) ?_
    refine wA ?_
    refine wA ?_
    refine WL.nil ?_
    refine kg (hK_6' [(2, st value), (7, Value.pointer (some ⟨pb, 7, none⟩)), (8, zI 1), (9, zI 16384)] _ ?_)
    refine a7 (fun _ hK_15' => ?_)
    refine a6 ?_
    refine wm ?_
    obtain ⟨o_3', h⟩ := h
    refine WL.call (A := []) abm rfl (y9 value o_3') rfl trivial rfl rfl ?_
    refine wm ?_
    refine wv (OV.extract 0 rfl rfl) ?_
    refine wv (OV.extract 1 rfl rfl) ?_
    refine wA ?_
    refine wA ?_
    refine WL.nil ?_
    refine kg (hK_15' [(7, Value.pointer (some ⟨pb, 7, none⟩)), (8, zI 1), (9, zI 16384), (10, zI (g8 value)), (11, zB (j5 value))] _ ?_)
    refine a7 (fun _ hK_16' => ?_)
    refine a6 ?_
    refine wm ?_
    refine wm ?_
    refine wv (OV.nilCheck rfl) ?_
    refine WL.store (vs := [zI (g8 value)]) (cs' := psC wa mb ({ q with chunk := g8 value })) 0 rfl rfl rfl rfl m6 (Nat.le_of_ble_eq_true rfl) rfl rfl rfl ?_
    refine WL.nil ?_
    refine kg (hK_16' [(8, zI 1), (9, zI 16384), (10, zI (g8 value)), (11, zB (j5 value))] _ ?_)
    refine a7 (fun _ hK_17' => ?_)
    refine a6 ?_
    refine wm ?_
    refine wm ?_
    refine WL.cut 4 [(9, zI 16384), (10, zI (g8 value)), (51, zB ((j5 value) && (decide (1 ≤ g8 value))))] ?_ (fun K0_18' hK_18' => ?_)
    rotate_left
    ·refine WL.split (j5 value) (fun hb => ?_) (fun hb => ?_)
     ·refine WL.set 47 rfl (congrArg zB hb) ?_
      refine wm ?_
      refine wm ?_
      refine wv (OV.geq rfl rfl) ?_
      refine wv (OV.pickT rfl rfl) ?_
      refine WL.set 51 rfl (bT (v := decide (1 ≤ g8 value)) hb) ?_
      exact WL.end_ (kg hK_18')
     ·refine WL.set 47 rfl (congrArg zB hb) ?_
      refine wk ?_
      refine wk ?_
      refine wk ?_
      refine wv (OV.pickF rfl rfl) ?_
      refine WL.set 51 rfl (bF (v := decide (1 ≤ g8 value)) hb) ?_
      exact WL.end_ (kg hK_18')
    refine wm ?_
    refine WL.cut 4 [(56, zB (((j5 value) && (decide (1 ≤ g8 value))) && (decide (g8 value ≤ 16384))))] ?_ (fun K0_19' hK_19' => ?_)
    rotate_left
    ·refine WL.split ((j5 value) && (decide (1 ≤ g8 value))) (fun hb => ?_) (fun hb => ?_)
     ·refine WL.set 52 rfl (congrArg zB hb) ?_
      refine wm ?_
      refine wm ?_
      refine wv (OV.leq rfl rfl) ?_
      refine wv (OV.pickT rfl rfl) ?_
      refine WL.set 56 rfl (bT (v := decide (g8 value ≤ 16384)) hb) ?_
      exact WL.end_ (kg hK_19')
     ·refine WL.set 52 rfl (congrArg zB hb) ?_
      refine wk ?_
      refine wk ?_
      refine wk ?_
      refine wv (OV.pickF rfl rfl) ?_
      refine WL.set 56 rfl (bF (v := decide (g8 value ≤ 16384)) hb) ?_
      exact WL.end_ (kg hK_19')
    refine wA ?_
    refine WL.nil ?_
    refine kg (hK_17' [(6, zB (((j5 value) && (decide (1 ≤ g8 value))) && (decide (g8 value ≤ 16384))))] _ ?_)
    refine e7 ?_
    exact hE.ret [0, 1] rfl rfl (.inl ⟨_, _, _, h, rfl⟩) (j6.of1 rfl (RV.tmp rfl))
   ·replace h := l6 h hb
    refine b8 ?_
    refine kg (hK_6' [(2, st value), (7, Value.pointer (some ⟨pb, 5, none⟩)), (8, zI 1), (9, zI 4096)] _ ?_)
    refine a7 (fun _ hK_20' => ?_)
    refine a6 ?_
    refine wm ?_
    obtain ⟨o_6', h⟩ := h
    refine WL.call (A := []) abm rfl (y9 value o_6') rfl trivial rfl rfl ?_
    refine wm ?_
    refine wv (OV.extract 0 rfl rfl) ?_
    refine wv (OV.extract 1 rfl rfl) ?_
    refine wA ?_
    refine wA ?_
    refine WL.nil ?_
    refine kg (hK_20' [(7, Value.pointer (some ⟨pb, 5, none⟩)), (8, zI 1), (9, zI 4096), (10, zI (g8 value)), (11, zB (j5 value))] _ ?_)
    refine a7 (fun _ hK_21' => ?_)
    refine a6 ?_
    refine wm ?_
    refine wm ?_
    refine wv (OV.nilCheck rfl) ?_
    refine WL.store (vs := [zI (g8 value)]) (cs' := psC wa mb ({ q with budget := g8 value })) 0 rfl rfl rfl rfl m6 (Nat.le_of_ble_eq_true rfl) rfl rfl rfl ?_
    refine WL.nil ?_
    refine kg (hK_21' [(8, zI 1), (9, zI 4096), (10, zI (g8 value)), (11, zB (j5 value))] _ ?_)
    refine a7 (fun _ hK_22' => ?_)
    refine a6 ?_
    refine wm ?_
    refine wm ?_
    refine WL.cut 4 [(9, zI 4096), (10, zI (g8 value)), (51, zB ((j5 value) && (decide (1 ≤ g8 value))))] ?_ (fun K0_23' hK_23' => ?_)
    rotate_left
    ·refine WL.split (j5 value) (fun hb => ?_) (fun hb => ?_)
     ·refine WL.set 47 rfl (congrArg zB hb) ?_
      refine wm ?_
      refine wm ?_
      refine wv (OV.geq rfl rfl) ?_
      refine wv (OV.pickT rfl rfl) ?_
      refine WL.set 51 rfl (bT (v := decide (1 ≤ g8 value)) hb) ?_
      exact WL.end_ (kg hK_23')
     ·refine WL.set 47 rfl (congrArg zB hb) ?_
      refine wk ?_
      refine wk ?_
      refine wk ?_
      refine wv (OV.pickF rfl rfl) ?_
      refine WL.set 51 rfl (bF (v := decide (1 ≤ g8 value)) hb) ?_
      exact WL.end_ (kg hK_23')
    refine wm ?_
    refine WL.cut 4 [(56, zB (((j5 value) && (decide (1 ≤ g8 value))) && (decide (g8 value ≤ 4096))))] ?_ (fun K0_24' hK_24' => ?_)
    rotate_left
    ·refine WL.split ((j5 value) && (decide (1 ≤ g8 value))) (fun hb => ?_) (fun hb => ?_)
     ·refine WL.set 52 rfl (congrArg zB hb) ?_
      refine wm ?_
      refine wm ?_
      refine wv (OV.leq rfl rfl) ?_
      refine wv (OV.pickT rfl rfl) ?_
      refine WL.set 56 rfl (bT (v := decide (g8 value ≤ 4096)) hb) ?_
      exact WL.end_ (kg hK_24')
     ·refine WL.set 52 rfl (congrArg zB hb) ?_
      refine wk ?_
      refine wk ?_
      refine wk ?_
      refine wv (OV.pickF rfl rfl) ?_
      refine WL.set 56 rfl (bF (v := decide (g8 value ≤ 4096)) hb) ?_
      exact WL.end_ (kg hK_24')
    refine wA ?_
    refine WL.nil ?_
    refine kg (hK_22' [(6, zB (((j5 value) && (decide (1 ≤ g8 value))) && (decide (g8 value ≤ 4096))))] _ ?_)
    refine e7 ?_
    exact hE.ret [0, 1] rfl rfl (.inl ⟨_, _, _, h, rfl⟩) (j6.of1 rfl (RV.tmp rfl))
def u1 (l : Int) (v : Bs) (q : PS) : Bool × PS :=
 if l = 111 then (!decide (v = []), { q with out := v })
 else if l = 110 then (((j5 v) && (decide (0 ≤ g8 v))) && (decide (g8 v ≤ 100)), { q with count := g8 v })
 else if l = 99 then (((j5 v) && (decide (1 ≤ g8 v))) && (decide (g8 v ≤ 16384)), { q with chunk := g8 v })
 else (((j5 v) && (decide (1 ≤ g8 v))) && (decide (g8 v ≤ 4096)), { q with budget := g8 v })
def al7 (_av : List Bs) (q : PS) (sl : List Int) (l : Int) (v : Bs) (ok : Bool) (q2 : PS) (sl2 : List Int) : Prop := u1 l v q = (ok, q2) ∧ sl2 = sl
theorem alg (pb mb : Nat) (wa : Value) (av : List Bs) (q : PS) (sl : List Int) (l : Int) (v : Bs) (h : (0 ≤ l ∧ l < 256) ∧ v.length ≤ 140737488355328) (R : List (Nat × Obj)) (hR : aaq wa R av.length (av.flatMap m9)) :
  i7 Tryd.prog 26 [.pointer (some ⟨pb, 0, none⟩), .int .u8 l, st v] (R ++ []) [.blk pb (.cells (psC wa mb q).toArray 51 (0, 0)), cnt Tryd.prog 5 3 mb sl]
   (fun o => ∃ ok q2 sl2, al7 av q sl l v ok q2 sl2 ∧ o = .ret (.bool ok) [.blk pb (.cells (psC wa mb q2).toArray 51 (0, 0)), cnt Tryd.prog 5 3 mb sl2]) := by
 refine (amz pb wa mb q av sl l v R hR (fun ok q2 sl2 => al7 av q sl l v ok q2 sl2) ?_).weak ?_
 ·unfold ahz al7 u1
  by_cases h1 : l = 111
  ·rw [if_pos (by simpa using h1), if_pos h1]; exact ⟨rfl, rfl⟩
  rw [if_neg (by simpa using h1), if_neg h1]
  by_cases h2 : l = 110
  ·rw [if_pos (by simpa using h2), if_pos h2]; exact ⟨h.2, rfl, rfl⟩
  rw [if_neg (by simpa using h2), if_neg h2]
  by_cases h3 : l = 99
  ·rw [if_pos (by simpa using h3), if_pos h3]; exact ⟨h.2, rfl, rfl⟩
  rw [if_neg (by simpa using h3), if_neg h3]
  exact ⟨h.2, rfl, rfl⟩
 ·rintro o (⟨ok, q2, sl2, h, rfl⟩ | h)
  ·exact ⟨ok, q2, sl2, h, rfl⟩
  ·cases h
abbrev aee : Bs := [117, 110, 107, 110, 111, 119, 110, 32, 111, 112, 116, 105, 111, 110]
abbrev ah9 : Bs := [111, 112, 116, 105, 111, 110, 32, 111, 117, 116, 32, 111, 102, 32, 112, 108, 97, 99, 101]
abbrev ah7 : Bs := [111, 112, 116, 105, 111, 110, 32, 116, 119, 105, 99, 101]
abbrev ani : Bs := [111, 112, 116, 105, 111, 110, 32, 119, 105, 116, 104, 111, 117, 116, 32, 118, 97, 108, 117, 101]
abbrev aj2 : Bs := [98, 97, 100, 32, 118, 97, 108, 117, 101]
abbrev am2 : Bs := [101, 120, 116, 114, 97, 32, 111, 112, 101, 114, 97, 110, 100]
abbrev anv : Bs := [110, 111, 32, 99, 111, 109, 109, 97, 110, 100]
abbrev akf : Bs := [117, 110, 107, 110, 111, 119, 110, 32, 99, 111, 109, 109, 97, 110, 100]
abbrev acl : Bs := [109, 105, 115, 115, 105, 110, 103, 32, 111, 112, 101, 114, 97, 110, 100]
def e9 (av : List Bs) (i : Int) : Bs := av.getD i.toNat default
def AvB (av : List Bs) : Prop := av.length ≤ 8796093022208 ∧ ∀ s ∈ av, s.length ≤ 140737488355328
theorem AvB.at {av : List Bs} (h : AvB av) (i : Int) : (e9 av i).length ≤ 140737488355328 := by
 unfold e9
 rw [List.getD_eq_getElem?_getD]
 cases hg : av[i.toNat]? with
 | none => show (([] : Bs)).length ≤ _; simp
 | some s => exact h.2 s (List.mem_of_getElem? hg)
def adt (av : List Bs) (q : PS) : Except (Int × Bs) (Bs × PS) :=
 if (e9 av q.at1).drop 2 = [] then
  if q.at1 + 1 = av.length then .error (q.at1, ani) else .ok (e9 av (q.at1 + 1), { q with at1 := q.at1 + 1 })
 else .ok ((e9 av q.at1).drop 2, q)
def aa5 (av : List Bs) (q : PS) (sl : List Int) : Except (Int × Bs) (PS × List Int) :=
 let c : Int := ((e9 av q.at1).getD 1 0).toNat
 if ixB [98, 110, 99, 111] c < 0 then .error (q.at1, aee)
 else if ixB q.sopts c < 0 then .error (q.at1, ah9)
 else if 0 < sl.count c then .error (q.at1, ah7)
 else match adt av q with
  | .error e => .error e
  | .ok (v, p) => if (u1 c v p).1 = true then .ok ({ (u1 c v p).2 with at1 := (u1 c v p).2.at1 + 1 }, c :: sl) else .error ((u1 c v p).2.at1, aj2)
def anz (av : List Bs) (q : PS) (sl : List Int) : Prop := AvB av ∧ 0 ≤ q.at1 ∧ q.at1 < av.length ∧ 2 ≤ (e9 av q.at1).length ∧ sl.length ≤ av.length
def anl (av : List Bs) (q : PS) (sl : List Int) (q2 : PS) (sl2 : List Int) : Prop := aa5 av q sl = .ok (q2, sl2)
def amf (av : List Bs) (q : PS) (sl : List Int) (e : Int) (why : Bs) : Prop := aa5 av q sl = .error (e, why)
def acr (q : PS) (av : List (List UInt8)) (sl : List Int) (K : PS → (List Int) → Prop) (KP : Value → PS → (List Int) → Prop) : Prop :=
 (0 ≤ q.at1 ∧ q.at1 < (av.length : Int)) ∧
 (0 ≤ (1 : Int) ∧ (1 : Int) < (av.getD (q.at1).toNat default).length) ∧
 (0 ≤ (((av.getD (q.at1).toNat default).getD (1 : Int).toNat 0).toNat : Int) ∧ (((av.getD (q.at1).toNat default).getD (1 : Int).toNat 0).toNat : Int) < 256) ∧
 (if (decide (ixB ([98, 110, 99, 111] : List UInt8) (((av.getD (q.at1).toNat default).getD (1 : Int).toNat 0).toNat : Int) < 0)) = true then
  KP (Value.iface 27 (Value.agg [zI 140, zI q.at1, st ([117, 110, 107, 110, 111, 119, 110, 32, 111, 112, 116, 105, 111, 110] : List UInt8)].toArray)) q sl
 else
  (0 ≤ (((av.getD (q.at1).toNat default).getD (1 : Int).toNat 0).toNat : Int) ∧ (((av.getD (q.at1).toNat default).getD (1 : Int).toNat 0).toNat : Int) < 256) ∧
  (if (decide (ixB q.sopts (((av.getD (q.at1).toNat default).getD (1 : Int).toNat 0).toNat : Int) < 0)) = true then
   KP (Value.iface 27 (Value.agg [zI 140, zI q.at1, st ([111, 112, 116, 105, 111, 110, 32, 111, 117, 116, 32, 111, 102, 32, 112, 108, 97, 99, 101] : List UInt8)].toArray)) q sl
  else
   (0 ≤ (((av.getD (q.at1).toNat default).getD (1 : Int).toNat 0).toNat : Int) ∧ (((av.getD (q.at1).toNat default).getD (1 : Int).toNat 0).toNat : Int) < 256) ∧
   (if (decide (0 < ((sl.count (((av.getD (q.at1).toNat default).getD (1 : Int).toNat 0).toNat : Int) : Nat) : Int))) = true then
    KP (Value.iface 27 (Value.agg [zI 140, zI q.at1, st ([111, 112, 116, 105, 111, 110, 32, 116, 119, 105, 99, 101] : List UInt8)].toArray)) q sl
   else
    (0 ≤ (((av.getD (q.at1).toNat default).getD (1 : Int).toNat 0).toNat : Int) ∧ (((av.getD (q.at1).toNat default).getD (1 : Int).toNat 0).toNat : Int) < 256) ∧
    (I64 (((sl.count (((av.getD (q.at1).toNat default).getD (1 : Int).toNat 0).toNat : Int) : Nat) : Int) + 1)) ∧
    ((0 ≤ (((av.getD (q.at1).toNat default).getD (1 : Int).toNat 0).toNat : Int) ∧ (((av.getD (q.at1).toNat default).getD (1 : Int).toNat 0).toNat : Int) < 256) ∧ sl.length < 140737488355328) ∧
    (0 ≤ (2 : Int) ∧ (2 : Int) ≤ (av.getD (q.at1).toNat default).length) ∧
    ∃ (J0 : (List UInt8) → PS → Prop),
     (∀ (value : List UInt8) (p : PS), J0 value p →
      ((0 ≤ (((av.getD (q.at1).toNat default).getD (1 : Int).toNat 0).toNat : Int) ∧ (((av.getD (q.at1).toNat default).getD (1 : Int).toNat 0).toNat : Int) < 256) ∧ value.length ≤ 140737488355328) ∧
      (∀ (ok : Bool) (q_1' : PS) (sl_1' : List Int), al7 av p ((((av.getD (q.at1).toNat default).getD (1 : Int).toNat 0).toNat : Int) :: sl) (((av.getD (q.at1).toNat default).getD (1 : Int).toNat 0).toNat : Int) value ok q_1' sl_1' →
       (if (!ok) = true then
        KP (Value.iface 27 (Value.agg [zI 140, zI q_1'.at1, st ([98, 97, 100, 32, 118, 97, 108, 117, 101] : List UInt8)].toArray)) q_1' sl_1'
       else
        (I64 (q_1'.at1 + 1)) ∧
        K ({ q_1' with at1 := q_1'.at1 + 1 }) sl_1'))) ∧
     (if (decide ((av.getD (q.at1).toNat default).drop (2 : Int).toNat = [])) = true then
      (I64 (q.at1 + 1)) ∧
      (if (decide (({ q with at1 := q.at1 + 1 }).at1 = (av.length : Int))) = true then
       KP (Value.iface 27 (Value.agg [zI 140, zI q.at1, st ([111, 112, 116, 105, 111, 110, 32, 119, 105, 116, 104, 111, 117, 116, 32, 118, 97, 108, 117, 101] : List UInt8)].toArray)) ({ q with at1 := q.at1 + 1 }) ((((av.getD (q.at1).toNat default).getD (1 : Int).toNat 0).toNat : Int) :: sl)
      else
       (0 ≤ (({ q with at1 := q.at1 + 1 }).at1) ∧ (({ q with at1 := q.at1 + 1 }).at1) < (av.length : Int)) ∧
       J0 (av.getD ((({ q with at1 := q.at1 + 1 }).at1)).toNat default) ({ q with at1 := q.at1 + 1 }))
     else
      J0 ((av.getD (q.at1).toNat default).drop (2 : Int).toNat) q))))
theorem ai5 (pb : Nat) (wa : Value) (mb : Nat) (q : PS) (av : List (List UInt8)) (sl : List Int) (Ri1 : List (Nat × Obj)) (hRi1 : aaq wa Ri1 av.length (av.flatMap m9)) (K : PS → (List Int) → Prop) (KP : Value → PS → (List Int) → Prop) (h : acr q av sl K KP) :
  i7 Tryd.prog 19 [zP pb] (Ri1 ++ []) [HA.blk pb (.cells (psC wa mb q).toArray 51 (0, 0)), cnt Tryd.prog 5 3 mb sl] (fun o => (∃ (d : PS) (D : List Int), K d D ∧ o = .ret (Value.tuple #[]) [HA.blk pb (.cells (psC wa mb d).toArray 51 (0, 0)), cnt Tryd.prog 5 3 mb D]) ∨ (∃ (pv : Value) (d : PS) (D : List Int), KP pv d D ∧ o = .pan [{ v := pv, recovered := false }] [HA.blk pb (.cells (psC wa mb d).toArray 51 (0, 0)), cnt Tryd.prog 5 3 mb D])) := by
 unfold acr at h
 refine d8 (n := 108) (L0 := [(0, zP pb)]) Tryd.func19 rfl rfl rfl rfl (fun w0 M Q hE => ?_)
 have hi1 : LIn ⟨108, [], w0, M, (Ri1 ++ [])⟩ wa av.length (av.flatMap m9) := LIn.mk hRi1 (fun p hp => by simp [hp])
 refine a7 (fun _ hK => ?_)
 refine a6 ?_
 refine wm ?_
 refine wv (OV.nilCheck rfl) ?_
 refine wv (OV.fieldAddr0 rfl i6) ?_
 refine wv (OV.load rfl (At.own 0 rfl) rfl d6) ?_
 refine wA ?_
 refine WL.nil ?_
 refine kg (hK [(0, zP pb), (2, zI q.at1)] _ ?_)
 refine a7 (fun _ hK_1' => ?_)
 refine a6 ?_
 refine wm ?_
 refine wv (OV.nilCheck rfl) ?_
 refine wv (OV.fieldAddr0 rfl m4) ?_
 refine wv (OV.load rfl (At.own 0 rfl) rfl p3) ?_
 refine wm ?_
 obtain ⟨o, h⟩ := h
 refine wv (OV.indexIn hi1 rfl rfl g9 o) ?_
 refine wv (OV.loadInE1 (f := m9) hi1 rfl l9 (by omega) rfl d3) ?_
 refine wA ?_
 refine WL.nil ?_
 refine kg (hK_1' [(0, zP pb), (2, zI q.at1), (3, st (av.getD (q.at1).toNat default))] _ ?_)
 refine a7 (fun _ hK_2' => ?_)
 refine a6 ?_
 refine wm ?_
 obtain ⟨o_1', h⟩ := h
 refine wv (OV.index rfl rfl d5 o_1') ?_
 refine wA ?_
 refine WL.nil ?_
 refine kg (hK_2' [(0, zP pb), (2, zI q.at1), (3, st (av.getD (q.at1).toNat default)), (4, zU (((av.getD (q.at1).toNat default).getD (1 : Int).toNat 0).toNat : Int))] _ ?_)
 refine a7 (fun _ hK_3' => ?_)
 refine d7 ?_
 refine a7 (fun _ hK_4' => ?_)
 refine a6 ?_
 refine wm ?_
 obtain ⟨o_2', h⟩ := h
 refine WL.call (A := []) aff rfl (adx ([98, 110, 99, 111] : List UInt8) (((av.getD (q.at1).toNat default).getD (1 : Int).toNat 0).toNat : Int) o_2') rfl trivial rfl rfl ?_
 refine wv (OV.lss rfl rfl) ?_
 refine wA ?_
 refine WL.nil ?_
 refine kg (hK_4' [(0, zP pb), (2, zI q.at1), (3, st (av.getD (q.at1).toNat default)), (4, zU (((av.getD (q.at1).toNat default).getD (1 : Int).toNat 0).toNat : Int)), (19, zB (decide (ixB ([98, 110, 99, 111] : List UInt8) (((av.getD (q.at1).toNat default).getD (1 : Int).toNat 0).toNat : Int) < 0)))] _ ?_)
 refine d4 (b := decide (ixB ([98, 110, 99, 111] : List UInt8) (((av.getD (q.at1).toNat default).getD (1 : Int).toNat 0).toNat : Int) < 0)) rfl (fun hb => ?_) (fun hb => ?_)
 ·replace h := k9 h hb
  refine a6 ?_
  refine wm ?_
  refine wm ?_
  refine WL.callS r6 rfl (p4 (zP pb) q.at1 ([117, 110, 107, 110, 111, 119, 110, 32, 111, 112, 116, 105, 111, 110] : List UInt8)) rfl trivial rfl rfl (fun r H' hS => by cases hS) (fun c H' hS => ?_)
  cases hS
  exact hE.pan [0, 1] rfl rfl (.inr ⟨_, _, _, h, rfl⟩)
 ·replace h := l6 h hb
  refine a7 (fun _ hK_5' => ?_)
  refine a6 ?_
  refine wm ?_
  refine wv (OV.nilCheck rfl) ?_
  refine wv (OV.fieldAddr0 rfl q9) ?_
  refine wv (OV.fieldAddr rfl aad) ?_
  refine wv (OV.load rfl (At.own 0 rfl) rfl d3) ?_
  refine wm ?_
  obtain ⟨o_3', h⟩ := h
  refine WL.call (A := []) aff rfl (adx q.sopts (((av.getD (q.at1).toNat default).getD (1 : Int).toNat 0).toNat : Int) o_3') rfl trivial rfl rfl ?_
  refine wv (OV.lss rfl rfl) ?_
  refine wA ?_
  refine WL.nil ?_
  refine kg (hK_5' [(0, zP pb), (2, zI q.at1), (3, st (av.getD (q.at1).toNat default)), (4, zU (((av.getD (q.at1).toNat default).getD (1 : Int).toNat 0).toNat : Int)), (26, zB (decide (ixB q.sopts (((av.getD (q.at1).toNat default).getD (1 : Int).toNat 0).toNat : Int) < 0)))] _ ?_)
  refine d4 (b := decide (ixB q.sopts (((av.getD (q.at1).toNat default).getD (1 : Int).toNat 0).toNat : Int) < 0)) rfl (fun hb => ?_) (fun hb => ?_)
  ·replace h := k9 h hb
   refine a6 ?_
   refine wm ?_
   refine wm ?_
   refine WL.callS r6 rfl (p4 (zP pb) q.at1 ([111, 112, 116, 105, 111, 110, 32, 111, 117, 116, 32, 111, 102, 32, 112, 108, 97, 99, 101] : List UInt8)) rfl trivial rfl rfl (fun r H' hS => by cases hS) (fun c H' hS => ?_)
   cases hS
   exact hE.pan [0, 1] rfl rfl (.inr ⟨_, _, _, h, rfl⟩)
  ·replace h := l6 h hb
   refine a7 (fun _ hK_6' => ?_)
   refine a6 ?_
   refine wm ?_
   refine wv (OV.nilCheck rfl) ?_
   refine wv (OV.fieldAddr0 rfl abw) ?_
   refine wv (OV.load rfl (At.own 0 rfl) rfl aef) ?_
   refine wm ?_
   obtain ⟨o_4', h⟩ := h
   refine wv (OV.lookup 1 rfl rfl rfl abp o_4') ?_
   refine wv (OV.gtr rfl rfl) ?_
   refine wA ?_
   refine WL.nil ?_
   refine kg (hK_6' [(0, zP pb), (2, zI q.at1), (3, st (av.getD (q.at1).toNat default)), (4, zU (((av.getD (q.at1).toNat default).getD (1 : Int).toNat 0).toNat : Int)), (38, zB (decide (0 < ((sl.count (((av.getD (q.at1).toNat default).getD (1 : Int).toNat 0).toNat : Int) : Nat) : Int))))] _ ?_)
   refine d4 (b := decide (0 < ((sl.count (((av.getD (q.at1).toNat default).getD (1 : Int).toNat 0).toNat : Int) : Nat) : Int))) rfl (fun hb => ?_) (fun hb => ?_)
   ·replace h := k9 h hb
    refine a6 ?_
    refine wm ?_
    refine wm ?_
    refine WL.callS r6 rfl (p4 (zP pb) q.at1 ([111, 112, 116, 105, 111, 110, 32, 116, 119, 105, 99, 101] : List UInt8)) rfl trivial rfl rfl (fun r H' hS => by cases hS) (fun c H' hS => ?_)
    cases hS
    exact hE.pan [0, 1] rfl rfl (.inr ⟨_, _, _, h, rfl⟩)
   ·replace h := l6 h hb
    refine b8 ?_
    refine kg (hK_3' [(0, zP pb), (2, zI q.at1), (3, st (av.getD (q.at1).toNat default)), (4, zU (((av.getD (q.at1).toNat default).getD (1 : Int).toNat 0).toNat : Int))] _ ?_)
    refine a7 (fun _ hK_7' => ?_)
    refine a6 ?_
    refine wm ?_
    refine wv (OV.nilCheck rfl) ?_
    refine wv (OV.fieldAddr0 rfl abw) ?_
    refine wv (OV.load rfl (At.own 0 rfl) rfl aef) ?_
    refine wm ?_
    obtain ⟨o_5', h⟩ := h
    refine wv (OV.lookup 1 rfl rfl rfl abp o_5') ?_
    obtain ⟨o_6', h⟩ := h
    refine wv (OV.add rfl rfl o_6') ?_
    obtain ⟨o_7', h⟩ := h
    refine WL.mapUpdate 1 rfl rfl rfl rfl abp o_7' rfl ?_
    refine WL.nil ?_
    refine kg (hK_7' [(0, zP pb), (2, zI q.at1), (3, st (av.getD (q.at1).toNat default)), (4, zU (((av.getD (q.at1).toNat default).getD (1 : Int).toNat 0).toNat : Int))] _ ?_)
    refine a7 (fun _ hK_8' => ?_)
    refine a6 ?_
    refine wm ?_
    obtain ⟨o_8', h⟩ := h
    refine wv (OV.sliceL rfl rfl d5 o_8') ?_
    refine wA ?_
    refine WL.nil ?_
    refine kg (hK_8' [(0, zP pb), (2, zI q.at1), (4, zU (((av.getD (q.at1).toNat default).getD (1 : Int).toNat 0).toNat : Int)), (5, st ((av.getD (q.at1).toNat default).drop (2 : Int).toNat))] _ ?_)
    obtain ⟨J0, hJ, h⟩ := h
    refine q7 (X := (List UInt8) × PS) (fun σ => J0 σ.1 σ.2) (fun σ => [(0, zP pb), (4, zU (((av.getD (q.at1).toNat default).getD (1 : Int).toNat 0).toNat : Int)), (5, st σ.1)]) (fun σ => [HA.blk pb (.cells (psC wa mb σ.2).toArray 51 (0, 0)), cnt Tryd.prog 5 3 mb ((((av.getD (q.at1).toNat default).getD (1 : Int).toNat 0).toNat : Int) :: sl)]) ?_ (fun K0_13' hK_13' => ?_)
    ·rintro ⟨value, p⟩ hj
     replace h := hJ value p hj
     show WC _ _ _ _ [(0, zP pb), (4, zU (((av.getD (q.at1).toNat default).getD (1 : Int).toNat 0).toNat : Int)), (5, st value)] [HA.blk pb (.cells (psC wa mb p).toArray 51 (0, 0)), cnt Tryd.prog 5 3 mb ((((av.getD (q.at1).toNat default).getD (1 : Int).toNat 0).toNat : Int) :: sl)]
     refine a7 (fun _ hK_14' => ?_)
     refine a7 (fun _ hK_15' => ?_)
     refine a6 ?_
     refine wm ?_
     refine wm ?_
     refine wm ?_
     obtain ⟨o_11', h⟩ := h
     refine WL.callS1 ajn rfl (alg pb mb wa av p ((((av.getD (q.at1).toNat default).getD (1 : Int).toNat 0).toNat : Int) :: sl) (((av.getD (q.at1).toNat default).getD (1 : Int).toNat 0).toNat : Int) value o_11') rfl (LOk.inn hi1) trivial rfl rfl (fun r H' hS => ?_) (fun c H' hS => ?_)
     ·obtain ⟨ok, q_1', sl_1', hc, ho⟩ := hS
      cases ho
      replace h := h ok q_1' sl_1' hc
      refine wv (OV.not rfl) ?_
      refine WL.nil ?_
      refine kg (hK_15' [(0, zP pb), (94, zB (!ok))] _ ?_)
      refine d4 (b := !ok) rfl (fun hb => ?_) (fun hb => ?_)
      ·replace h := k9 h hb
       refine a6 ?_
       refine wm ?_
       refine wm ?_
       refine wv (OV.nilCheck rfl) ?_
       refine wv (OV.fieldAddr0 rfl i6) ?_
       refine wv (OV.load rfl (At.own 0 rfl) rfl d6) ?_
       refine WL.callS r6 rfl (p4 (zP pb) q_1'.at1 ([98, 97, 100, 32, 118, 97, 108, 117, 101] : List UInt8)) rfl trivial rfl rfl (fun r H' hS => by cases hS) (fun c H' hS => ?_)
       cases hS
       exact hE.pan [0, 1] rfl rfl (.inr ⟨_, _, _, h, rfl⟩)
      ·replace h := l6 h hb
       refine b8 ?_
       refine kg (hK_14' [(0, zP pb)] _ ?_)
       refine a6 ?_
       refine wm ?_
       refine wv (OV.nilCheck rfl) ?_
       refine wv (OV.fieldAddr0 rfl i6) ?_
       refine wv (OV.load rfl (At.own 0 rfl) rfl d6) ?_
       obtain ⟨o_12', h⟩ := h
       refine wv (OV.add rfl rfl o_12') ?_
       refine wv (OV.nilCheck rfl) ?_
       refine wv (OV.fieldAddr0 rfl i6) ?_
       refine WL.store (vs := [zI (q_1'.at1 + 1)]) (cs' := psC wa mb ({ q_1' with at1 := q_1'.at1 + 1 })) 0 rfl rfl rfl rfl m6 (Nat.le_of_ble_eq_true rfl) rfl rfl rfl ?_
       refine WL.nil ?_
       exact hE.norm [0, 1] rfl rfl (.inl ⟨_, _, h, rfl⟩) (j6.none rfl)
     ·obtain ⟨ok, q_1', sl_1', hc, ho⟩ := hS
      cases ho
    ·skip
     refine a7 (fun _ hK_16' => ?_)
     refine a6 ?_
     refine wm ?_
     refine wv (OV.eqlS rfl rfl) ?_
     refine WL.nil ?_
     refine kg (hK_16' [(0, zP pb), (2, zI q.at1), (4, zU (((av.getD (q.at1).toNat default).getD (1 : Int).toNat 0).toNat : Int)), (5, st ((av.getD (q.at1).toNat default).drop (2 : Int).toNat)), (59, zB (decide ((av.getD (q.at1).toNat default).drop (2 : Int).toNat = [])))] _ ?_)
     refine d4 (b := decide ((av.getD (q.at1).toNat default).drop (2 : Int).toNat = [])) rfl (fun hb => ?_) (fun hb => ?_)
     ·replace h := k9 h hb
      refine a7 (fun _ hK_17' => ?_)
      refine a6 ?_
      refine wm ?_
      refine wv (OV.nilCheck rfl) ?_
      refine wv (OV.fieldAddr0 rfl i6) ?_
      refine wv (OV.load rfl (At.own 0 rfl) rfl d6) ?_
      obtain ⟨o_13', h⟩ := h
      refine wv (OV.add rfl rfl o_13') ?_
      refine wv (OV.nilCheck rfl) ?_
      refine wv (OV.fieldAddr0 rfl i6) ?_
      refine WL.store (vs := [zI (q.at1 + 1)]) (cs' := psC wa mb ({ q with at1 := q.at1 + 1 })) 0 rfl rfl rfl rfl m6 (Nat.le_of_ble_eq_true rfl) rfl rfl rfl ?_
      refine WL.nil ?_
      refine kg (hK_17' [(0, zP pb), (2, zI q.at1), (4, zU (((av.getD (q.at1).toNat default).getD (1 : Int).toNat 0).toNat : Int))] _ ?_)
      refine a7 (fun _ hK_18' => ?_)
      refine a7 (fun _ hK_19' => ?_)
      refine t8 9 [] m5 (by kernel_rfl) rfl (fun T_2' hT_2' => ?_)
      refine fv (fun _ => OV.move rfl) ?_
      refine fv (fun _ => OV.nilCheck rfl) ?_
      refine fv (fun _ => OV.fieldAddr0 rfl i6) ?_
      refine fv (fun _ => OV.load rfl (At.own 0 rfl) rfl d6) ?_
      refine fv (fun _ => OV.move rfl) ?_
      refine fv (fun _ => OV.nilCheck rfl) ?_
      refine fv (fun _ => OV.fieldAddr0 rfl m4) ?_
      refine fv (fun _ => OV.load rfl (At.own 0 rfl) rfl p3) ?_
      refine fv (fun _ => OV.lenIn hi1 rfl g9) ?_
      refine FL.weak (L' := fun γ => [(0, zP pb), (2, zI q.at1), (4, zU (((av.getD (q.at1).toNat default).getD (1 : Int).toNat 0).toNat : Int)), (70, zI (({ q with at1 := q.at1 + 1 }).at1)), (75, zI (av.length : Int))]) (fun γ => ⟨rfl, rfl, rfl, rfl, rfl, trivial⟩) (FL.nil (hT_2' (fun γ => [(0, zP pb), (2, zI q.at1), (4, zU (((av.getD (q.at1).toNat default).getD (1 : Int).toNat 0).toNat : Int)), (70, zI (({ q with at1 := q.at1 + 1 }).at1)), (75, zI (av.length : Int))]) (fun γ => ?_)))
      refine wv (OV.eql rfl rfl) ?_
      refine WL.nil ?_
      refine kg (hK_19' [(0, zP pb), (2, zI q.at1), (4, zU (((av.getD (q.at1).toNat default).getD (1 : Int).toNat 0).toNat : Int)), (76, zB (decide (({ q with at1 := q.at1 + 1 }).at1 = (av.length : Int))))] _ ?_)
      refine d4 (b := decide (({ q with at1 := q.at1 + 1 }).at1 = (av.length : Int))) rfl (fun hb => ?_) (fun hb => ?_)
      ·replace h := k9 h hb
       refine a6 ?_
       refine wm ?_
       refine wm ?_
       refine WL.callS r6 rfl (p4 (zP pb) q.at1 ([111, 112, 116, 105, 111, 110, 32, 119, 105, 116, 104, 111, 117, 116, 32, 118, 97, 108, 117, 101] : List UInt8)) rfl trivial rfl rfl (fun r H' hS => by cases hS) (fun c H' hS => ?_)
       cases hS
       exact hE.pan [0, 1] rfl rfl (.inr ⟨_, _, _, h, rfl⟩)
      ·replace h := l6 h hb
       refine b8 ?_
       refine kg (hK_18' [(0, zP pb), (4, zU (((av.getD (q.at1).toNat default).getD (1 : Int).toNat 0).toNat : Int))] _ ?_)
       refine t8 8 [] m5 (by kernel_rfl) rfl (fun T_3' hT_3' => ?_)
       refine fv (fun _ => OV.move rfl) ?_
       refine fv (fun _ => OV.nilCheck rfl) ?_
       refine fv (fun _ => OV.fieldAddr0 rfl m4) ?_
       refine fv (fun _ => OV.load rfl (At.own 0 rfl) rfl p3) ?_
       refine fv (fun _ => OV.move rfl) ?_
       refine fv (fun _ => OV.nilCheck rfl) ?_
       refine fv (fun _ => OV.fieldAddr0 rfl i6) ?_
       refine fv (fun _ => OV.load rfl (At.own 0 rfl) rfl d6) ?_
       refine FL.weak (L' := fun γ => [(0, zP pb), (4, zU (((av.getD (q.at1).toNat default).getD (1 : Int).toNat 0).toNat : Int)), (83, wa), (87, zI (({ q with at1 := q.at1 + 1 }).at1))]) (fun γ => ⟨rfl, rfl, rfl, rfl, trivial⟩) (FL.nil (hT_3' (fun γ => [(0, zP pb), (4, zU (((av.getD (q.at1).toNat default).getD (1 : Int).toNat 0).toNat : Int)), (83, wa), (87, zI (({ q with at1 := q.at1 + 1 }).at1))]) (fun γ => ?_)))
       obtain ⟨o_14', h⟩ := h
       refine wv (OV.indexIn hi1 rfl rfl g9 o_14') ?_
       refine wv (OV.loadInE1 (f := m9) hi1 rfl l9 (by omega) rfl d3) ?_
       refine wA ?_
       refine WL.nil ?_
       exact kh (hK_13' ((av.getD ((({ q with at1 := q.at1 + 1 }).at1)).toNat default), { q with at1 := q.at1 + 1 }) h) [0, 1]
     ·replace h := l6 h hb
      refine b8 ?_
      exact kh (hK_13' ((av.getD (q.at1).toNat default).drop (2 : Int).toNat, q) h) [0, 1]
theorem ami (l : Int) (v : Bs) (q : PS) : (u1 l v q).2.at1 = q.at1 := by
 unfold u1
 (repeat' split) <;> rfl
theorem ag4 (pb mb : Nat) (wa : Value) (av : List Bs) (q : PS) (sl : List Int) (h : anz av q sl) (R : List (Nat × Obj)) (hR : aaq wa R av.length (av.flatMap m9)) :
  i7 Tryd.prog 19 [.pointer (some ⟨pb, 0, none⟩)] (R ++ []) [.blk pb (.cells (psC wa mb q).toArray 51 (0, 0)), cnt Tryd.prog 5 3 mb sl]
   (fun o => (∃ q2 sl2, anl av q sl q2 sl2 ∧ o = .ret (.tuple #[]) [.blk pb (.cells (psC wa mb q2).toArray 51 (0, 0)), cnt Tryd.prog 5 3 mb sl2]) ∨
    (∃ e why q2 sl2, amf av q sl e why ∧ o = .pan [{ v := v7 e why, recovered := false }] [.blk pb (.cells (psC wa mb q2).toArray 51 (0, 0)), cnt Tryd.prog 5 3 mb sl2])) := by
 refine (ai5 pb wa mb q av sl R hR (fun q2 sl2 => anl av q sl q2 sl2) (fun v _ _ => ∃ e why, amf av q sl e why ∧ v = v7 e why) ?_).weak ?_
 ·obtain ⟨hA, i0, i1, h2, h3⟩ := h
  have hA1 := hA.1
  unfold acr
  show (0 ≤ q.at1 ∧ q.at1 < (av.length : Int)) ∧ (0 ≤ (1 : Int) ∧ (1 : Int) < (e9 av q.at1).length) ∧ _
  have hE : ∀ {e : Int} {why : Bs}, aa5 av q sl = .error (e, why) → ∃ e' why', amf av q sl e' why' ∧ v7 e why = v7 e' why' := fun h => ⟨_, _, h, rfl⟩
  generalize hc : ((e9 av q.at1).getD (1 : Int).toNat 0) = c
  have hc' : (e9 av q.at1).getD 1 0 = c := hc
  have hlt := c.toNat_lt
  have hcb : 0 ≤ ((c.toNat : Nat) : Int) ∧ ((c.toNat : Nat) : Int) < 256 := ⟨by omega, by omega⟩
  have hu : aa5 av q sl = (if ixB [98, 110, 99, 111] ((c.toNat : Nat) : Int) < 0 then .error (q.at1, aee)
   else if ixB q.sopts ((c.toNat : Nat) : Int) < 0 then .error (q.at1, ah9)
   else if 0 < sl.count ((c.toNat : Nat) : Int) then .error (q.at1, ah7)
   else match adt av q with
    | .error e => .error e
    | .ok (v, p) => if (u1 ((c.toNat : Nat) : Int) v p).1 = true then .ok ({ (u1 ((c.toNat : Nat) : Int) v p).2 with at1 := (u1 ((c.toNat : Nat) : Int) v p).2.at1 + 1 }, ((c.toNat : Nat) : Int) :: sl) else .error ((u1 ((c.toNat : Nat) : Int) v p).2.at1, aj2)) := by
   unfold aa5; rw [hc']
  refine ⟨⟨i0, i1⟩, ⟨by omega, by omega⟩, ?_⟩
  rw [show ((av.getD (q.at1).toNat default).getD (1 : Int).toNat 0) = c from hc]
  refine ⟨hcb, ?_⟩
  by_cases k1 : ixB [98, 110, 99, 111] ((c.toNat : Nat) : Int) < 0
  ·rw [if_pos (by simpa using k1)]
   exact hE (by rw [hu, if_pos k1])
  rw [if_neg (by simpa using k1)]
  refine ⟨hcb, ?_⟩
  by_cases k2 : ixB q.sopts ((c.toNat : Nat) : Int) < 0
  ·rw [if_pos (by simpa using k2)]
   exact hE (by rw [hu, if_neg k1, if_pos k2])
  rw [if_neg (by simpa using k2)]
  refine ⟨hcb, ?_⟩
  have hcl : sl.count ((c.toNat : Nat) : Int) ≤ sl.length := List.count_le_length
  by_cases k3 : 0 < sl.count ((c.toNat : Nat) : Int)
  ·rw [if_pos (by rw [decide_eq_true_eq]; omega)]
   exact hE (by rw [hu, if_neg k1, if_neg k2, if_pos k3])
  rw [if_neg (by rw [decide_eq_true_eq]; omega)]
  refine ⟨hcb, by unfold I64; omega, ⟨hcb, by omega⟩, ⟨by omega, by show (2 : Int) ≤ ((e9 av q.at1).length : Int); omega⟩, fun v p => adt av q = .ok (v, p) ∧ v.length ≤ 140737488355328 ∧ 0 ≤ p.at1 ∧ p.at1 < av.length, ?_, ?_⟩
  ·rintro v p ⟨hv, hvl, hp0, hp1⟩
   refine ⟨⟨hcb, hvl⟩, ?_⟩
   rintro ok q2 sl2 ⟨hs, rfl⟩
   have hat := ami ((c.toNat : Nat) : Int) v p
   have hu2 := hu
   rw [if_neg k1, if_neg k2, if_neg k3, hv] at hu2
   simp only [hs] at hu2 hat
   cases ok with
   | false =>
    rw [if_pos (show (!false) = true from rfl)]
    exact hE (by rw [hu2]; rfl)
   | true =>
    rw [if_neg (by simp)]
    refine ⟨by unfold I64; omega, ?_⟩
    show aa5 av q sl = _
    rw [hu2]; rfl
  ·by_cases k4 : (e9 av q.at1).drop 2 = []
   ·rw [if_pos (by rw [decide_eq_true_eq]; exact k4)]
    refine ⟨by unfold I64; omega, ?_⟩
    by_cases k5 : q.at1 + 1 = av.length
    ·rw [if_pos (by rw [decide_eq_true_eq]; exact k5)]
     refine hE ?_
     rw [hu, if_neg k1, if_neg k2, if_neg k3]
     unfold adt
     rw [if_pos k4, if_pos k5]
    ·rw [if_neg (by rw [decide_eq_true_eq]; exact k5)]
     refine ⟨⟨by show 0 ≤ q.at1 + 1; omega, by show q.at1 + 1 < (av.length : Int); omega⟩, ?_, hA.at _, by show 0 ≤ q.at1 + 1; omega, by show q.at1 + 1 < (av.length : Int); omega⟩
     unfold adt
     rw [if_pos k4, if_neg k5]; rfl
   ·rw [if_neg (by rw [decide_eq_true_eq]; exact k4)]
    refine ⟨?_, ?_, i0, i1⟩
    ·unfold adt
     rw [if_neg k4]; rfl
    ·have := hA.at q.at1
     show ((e9 av q.at1).drop 2).length ≤ _
     rw [List.length_drop]; omega
 ·rintro o (⟨q2, sl2, h, rfl⟩ | ⟨v, q2, sl2, ⟨e, why, h, rfl⟩, rfl⟩)
  ·exact .inl ⟨q2, sl2, h, rfl⟩
  ·exact .inr ⟨e, why, q2, sl2, h, rfl⟩
def y8 (l : Int) (a : Bs) (q : PS) : PS :=
 if l = 108 then { q with lens := a } else if l = 118 then { q with view := a } else if l = 115 then { q with src := a } else if l = 116 then { q with text := a } else if l = 97 then { q with at0 := g8 a } else if l = 100 then { q with del := g8 a } else q
def ack (av : List Bs) (q : PS) : Except (Int × Bs) PS :=
 if q.got = q.sops.length then .error (q.at1, am2)
 else
  let l : Int := (q.sops.getD q.got.toNat 0).toNat
  if (l = 97 ∨ l = 100) ∧ j5 (e9 av q.at1) = false then .error (q.at1, aj2)
  else .ok { y8 l (e9 av q.at1) q with got := q.got + 1, at1 := q.at1 + 1 }
def ano (av : List Bs) (q : PS) (_sl : List Int) : Prop := AvB av ∧ 0 ≤ q.at1 ∧ q.at1 < av.length ∧ 0 ≤ q.got ∧ q.got ≤ q.sops.length ∧ q.sops.length ≤ 100
def amu (av : List Bs) (q : PS) (sl : List Int) (q2 : PS) (sl2 : List Int) : Prop := ack av q = .ok q2 ∧ sl2 = sl
def al2 (av : List Bs) (q : PS) (_sl : List Int) (e : Int) (why : Bs) : Prop := ack av q = .error (e, why)
def ace (q : PS) (av : List (List UInt8)) (sl : List Int) (K : PS → (List Int) → Prop) (KP : Value → PS → (List Int) → Prop) : Prop :=
 (if (decide (q.got = (q.sops.length : Int))) = true then
  KP (Value.iface 27 (Value.agg [zI 140, zI q.at1, st ([101, 120, 116, 114, 97, 32, 111, 112, 101, 114, 97, 110, 100] : List UInt8)].toArray)) q sl
 else
  (0 ≤ q.at1 ∧ q.at1 < (av.length : Int)) ∧
  ((av.getD (q.at1).toNat default).length ≤ 140737488355328) ∧
  ∃ (J0 : PS → Prop),
   (∀ (p : PS), J0 p →
    (0 ≤ p.got ∧ p.got < p.sops.length) ∧
    (if (((decide (((p.sops.getD p.got.toNat 0).toNat : Int) = 97)) || (decide (((p.sops.getD p.got.toNat 0).toNat : Int) = 100))) && (!(j5 (av.getD (q.at1).toNat default)))) = true then
     KP (Value.iface 27 (Value.agg [zI 140, zI p.at1, st ([98, 97, 100, 32, 118, 97, 108, 117, 101] : List UInt8)].toArray)) p sl
    else
     (I64 (p.got + 1)) ∧
     (I64 ((({ p with got := p.got + 1 }).at1) + 1)) ∧
     K ({ { p with got := p.got + 1 } with at1 := (({ p with got := p.got + 1 }).at1) + 1 }) sl)) ∧
   (0 ≤ q.got ∧ q.got < q.sops.length) ∧
   (if (decide (((q.sops.getD q.got.toNat 0).toNat : Int) = 108)) = true then
    J0 ({ q with lens := (av.getD (q.at1).toNat default) })
   else
    (if (decide (((q.sops.getD q.got.toNat 0).toNat : Int) = 118)) = true then
     J0 ({ q with view := (av.getD (q.at1).toNat default) })
    else
     (if (decide (((q.sops.getD q.got.toNat 0).toNat : Int) = 115)) = true then
      J0 ({ q with src := (av.getD (q.at1).toNat default) })
     else
      (if (decide (((q.sops.getD q.got.toNat 0).toNat : Int) = 116)) = true then
       J0 ({ q with text := (av.getD (q.at1).toNat default) })
      else
       (if (decide (((q.sops.getD q.got.toNat 0).toNat : Int) = 97)) = true then
        J0 ({ q with at0 := g8 (av.getD (q.at1).toNat default) })
       else
        (if (decide (((q.sops.getD q.got.toNat 0).toNat : Int) = 100)) = true then
         J0 ({ q with del := g8 (av.getD (q.at1).toNat default) })
        else
         J0 q)))))))
theorem aie (pb : Nat) (wa : Value) (mb : Nat) (q : PS) (av : List (List UInt8)) (sl : List Int) (Ri1 : List (Nat × Obj)) (hRi1 : aaq wa Ri1 av.length (av.flatMap m9)) (K : PS → (List Int) → Prop) (KP : Value → PS → (List Int) → Prop) (h : ace q av sl K KP) :
  i7 Tryd.prog 20 [zP pb] (Ri1 ++ []) [HA.blk pb (.cells (psC wa mb q).toArray 51 (0, 0)), cnt Tryd.prog 5 3 mb sl] (fun o => (∃ (d : PS) (D : List Int), K d D ∧ o = .ret (Value.tuple #[]) [HA.blk pb (.cells (psC wa mb d).toArray 51 (0, 0)), cnt Tryd.prog 5 3 mb D]) ∨ (∃ (pv : Value) (d : PS) (D : List Int), KP pv d D ∧ o = .pan [{ v := pv, recovered := false }] [HA.blk pb (.cells (psC wa mb d).toArray 51 (0, 0)), cnt Tryd.prog 5 3 mb D])) := by
 unfold ace at h
 refine d8 (n := 130) (L0 := [(0, zP pb)]) Tryd.func20 rfl rfl rfl rfl (fun w0 M Q hE => ?_)
 have hi1 : LIn ⟨130, [], w0, M, (Ri1 ++ [])⟩ wa av.length (av.flatMap m9) := LIn.mk hRi1 (fun p hp => by simp [hp])
 refine a7 (fun _ hK => ?_)
 refine a7 (fun _ hK_1' => ?_)
 refine t8 10 [] m5 (by kernel_rfl) rfl (fun T hT => ?_)
 refine fv (fun _ => OV.move rfl) ?_
 refine fv (fun _ => OV.nilCheck rfl) ?_
 refine fv (fun _ => OV.fieldAddr0 rfl r4) ?_
 refine fv (fun _ => OV.load rfl (At.own 0 rfl) rfl d6) ?_
 refine fv (fun _ => OV.move rfl) ?_
 refine fv (fun _ => OV.nilCheck rfl) ?_
 refine fv (fun _ => OV.fieldAddr0 rfl q9) ?_
 refine fv (fun _ => OV.fieldAddr rfl u3) ?_
 refine fv (fun _ => OV.load rfl (At.own 0 rfl) rfl d3) ?_
 refine fv (fun _ => OV.len rfl d5) ?_
 refine FL.weak (L' := fun γ => [(0, zP pb), (9, zI q.got), (15, zI (q.sops.length : Int))]) (fun γ => ⟨rfl, rfl, rfl, trivial⟩) (FL.nil (hT (fun γ => [(0, zP pb), (9, zI q.got), (15, zI (q.sops.length : Int))]) (fun γ => ?_)))
 refine wv (OV.eql rfl rfl) ?_
 refine WL.nil ?_
 refine kg (hK_1' [(0, zP pb), (16, zB (decide (q.got = (q.sops.length : Int))))] _ ?_)
 refine d4 (b := decide (q.got = (q.sops.length : Int))) rfl (fun hb => ?_) (fun hb => ?_)
 ·replace h := k9 h hb
  refine a6 ?_
  refine wm ?_
  refine wm ?_
  refine wv (OV.nilCheck rfl) ?_
  refine wv (OV.fieldAddr0 rfl i6) ?_
  refine wv (OV.load rfl (At.own 0 rfl) rfl d6) ?_
  refine WL.callS r6 rfl (p4 (zP pb) q.at1 ([101, 120, 116, 114, 97, 32, 111, 112, 101, 114, 97, 110, 100] : List UInt8)) rfl trivial rfl rfl (fun r H' hS => by cases hS) (fun c H' hS => ?_)
  cases hS
  exact hE.pan [0, 1] rfl rfl (.inr ⟨_, _, _, h, rfl⟩)
 ·replace h := l6 h hb
  refine b8 ?_
  refine kg (hK [(0, zP pb)] _ ?_)
  refine a7 (fun _ hK_2' => ?_)
  refine t8 8 [] m5 (by kernel_rfl) rfl (fun T_1' hT_1' => ?_)
  refine fv (fun _ => OV.move rfl) ?_
  refine fv (fun _ => OV.nilCheck rfl) ?_
  refine fv (fun _ => OV.fieldAddr0 rfl m4) ?_
  refine fv (fun _ => OV.load rfl (At.own 0 rfl) rfl p3) ?_
  refine fv (fun _ => OV.move rfl) ?_
  refine fv (fun _ => OV.nilCheck rfl) ?_
  refine fv (fun _ => OV.fieldAddr0 rfl i6) ?_
  refine fv (fun _ => OV.load rfl (At.own 0 rfl) rfl d6) ?_
  refine FL.weak (L' := fun γ => [(0, zP pb), (26, wa), (30, zI q.at1)]) (fun γ => ⟨rfl, rfl, rfl, trivial⟩) (FL.nil (hT_1' (fun γ => [(0, zP pb), (26, wa), (30, zI q.at1)]) (fun γ => ?_)))
  obtain ⟨o, h⟩ := h
  refine wv (OV.indexIn hi1 rfl rfl g9 o) ?_
  refine wv (OV.loadInE1 (f := m9) hi1 rfl l9 (by omega) rfl d3) ?_
  refine wA ?_
  refine WL.nil ?_
  refine kg (hK_2' [(0, zP pb), (2, st (av.getD (q.at1).toNat default))] _ ?_)
  refine a7 (fun _ hK_3' => ?_)
  refine a6 ?_
  refine wm ?_
  obtain ⟨o_1', h⟩ := h
  refine WL.call (A := []) abm rfl (y9 (av.getD (q.at1).toNat default) o_1') rfl trivial rfl rfl ?_
  refine wm ?_
  refine wv (OV.extract 0 rfl rfl) ?_
  refine wv (OV.extract 1 rfl rfl) ?_
  refine wA ?_
  refine wA ?_
  refine WL.nil ?_
  refine kg (hK_3' [(0, zP pb), (2, st (av.getD (q.at1).toNat default)), (3, zI (g8 (av.getD (q.at1).toNat default))), (4, zB (j5 (av.getD (q.at1).toNat default)))] _ ?_)
  obtain ⟨J0, hJ, h⟩ := h
  refine q7 (X := PS) (fun σ => J0 σ) (fun σ => [(0, zP pb), (4, zB (j5 (av.getD (q.at1).toNat default)))]) (fun σ => [HA.blk pb (.cells (psC wa mb σ).toArray 51 (0, 0)), cnt Tryd.prog 5 3 mb sl]) ?_ (fun K0_11' hK_11' => ?_)
  ·rintro p hj
   replace h := hJ p hj
   show WC _ _ _ _ [(0, zP pb), (4, zB (j5 (av.getD (q.at1).toNat default)))] [HA.blk pb (.cells (psC wa mb p).toArray 51 (0, 0)), cnt Tryd.prog 5 3 mb sl]
   refine a7 (fun _ hK_12' => ?_)
   refine a7 (fun _ hK_13' => ?_)
   refine t8 9 [] m5 (by kernel_rfl) rfl (fun T_3' hT_3' => ?_)
   refine fv (fun _ => OV.move rfl) ?_
   refine fv (fun _ => OV.nilCheck rfl) ?_
   refine fv (fun _ => OV.fieldAddr0 rfl q9) ?_
   refine fv (fun _ => OV.fieldAddr rfl u3) ?_
   refine fv (fun _ => OV.load rfl (At.own 0 rfl) rfl d3) ?_
   refine fv (fun _ => OV.move rfl) ?_
   refine fv (fun _ => OV.nilCheck rfl) ?_
   refine fv (fun _ => OV.fieldAddr0 rfl r4) ?_
   refine fv (fun _ => OV.load rfl (At.own 0 rfl) rfl d6) ?_
   refine FL.weak (L' := fun γ => [(0, zP pb), (4, zB (j5 (av.getD (q.at1).toNat default))), (94, st p.sops), (98, zI p.got)]) (fun γ => ⟨rfl, rfl, rfl, rfl, trivial⟩) (FL.nil (hT_3' (fun γ => [(0, zP pb), (4, zB (j5 (av.getD (q.at1).toNat default))), (94, st p.sops), (98, zI p.got)]) (fun γ => ?_)))
   obtain ⟨o_3', h⟩ := h
   refine wv (OV.index rfl rfl d5 o_3') ?_
   refine wA ?_
   refine WL.nil ?_
   refine kg (hK_13' [(0, zP pb), (4, zB (j5 (av.getD (q.at1).toNat default))), (5, zU ((p.sops.getD p.got.toNat 0).toNat : Int))] _ ?_)
   refine a7 (fun _ hK_14' => ?_)
   refine a6 ?_
   refine wm ?_
   refine wv (OV.eql rfl rfl) ?_
   refine wm ?_
   refine WL.cut 3 [(0, zP pb), (4, zB (j5 (av.getD (q.at1).toNat default))), (105, zB ((decide (((p.sops.getD p.got.toNat 0).toNat : Int) = 97)) || (decide (((p.sops.getD p.got.toNat 0).toNat : Int) = 100))))] ?_ (fun K0_15' hK_15' => ?_)
   rotate_left
   ·refine WL.split (decide (((p.sops.getD p.got.toNat 0).toNat : Int) = 97)) (fun hb => ?_) (fun hb => ?_)
    ·refine WL.set 102 rfl (congrArg zB hb) ?_
     refine wk ?_
     refine wk ?_
     refine wv (OV.pickT rfl rfl) ?_
     refine WL.set 105 rfl (oT (v := decide (((p.sops.getD p.got.toNat 0).toNat : Int) = 100)) hb) ?_
     exact WL.end_ (kg hK_15')
    ·refine WL.set 102 rfl (congrArg zB hb) ?_
     refine wm ?_
     refine wv (OV.eql rfl rfl) ?_
     refine wv (OV.pickF rfl rfl) ?_
     refine WL.set 105 rfl (oF (v := decide (((p.sops.getD p.got.toNat 0).toNat : Int) = 100)) hb) ?_
     exact WL.end_ (kg hK_15')
   refine wm ?_
   refine WL.cut 3 [(0, zP pb), (109, zB (((decide (((p.sops.getD p.got.toNat 0).toNat : Int) = 97)) || (decide (((p.sops.getD p.got.toNat 0).toNat : Int) = 100))) && (!(j5 (av.getD (q.at1).toNat default)))))] ?_ (fun K0_16' hK_16' => ?_)
   rotate_left
   ·refine WL.split ((decide (((p.sops.getD p.got.toNat 0).toNat : Int) = 97)) || (decide (((p.sops.getD p.got.toNat 0).toNat : Int) = 100))) (fun hb => ?_) (fun hb => ?_)
    ·refine WL.set 106 rfl (congrArg zB hb) ?_
     refine wm ?_
     refine wv (OV.not rfl) ?_
     refine wv (OV.pickT rfl rfl) ?_
     refine WL.set 109 rfl (bT (v := !(j5 (av.getD (q.at1).toNat default))) hb) ?_
     exact WL.end_ (kg hK_16')
    ·refine WL.set 106 rfl (congrArg zB hb) ?_
     refine wk ?_
     refine wk ?_
     refine wv (OV.pickF rfl rfl) ?_
     refine WL.set 109 rfl (bF (v := !(j5 (av.getD (q.at1).toNat default))) hb) ?_
     exact WL.end_ (kg hK_16')
   refine WL.nil ?_
   refine kg (hK_14' [(0, zP pb), (109, zB (((decide (((p.sops.getD p.got.toNat 0).toNat : Int) = 97)) || (decide (((p.sops.getD p.got.toNat 0).toNat : Int) = 100))) && (!(j5 (av.getD (q.at1).toNat default)))))] _ ?_)
   refine d4 (b := ((decide (((p.sops.getD p.got.toNat 0).toNat : Int) = 97)) || (decide (((p.sops.getD p.got.toNat 0).toNat : Int) = 100))) && (!(j5 (av.getD (q.at1).toNat default)))) rfl (fun hb => ?_) (fun hb => ?_)
   ·replace h := k9 h hb
    refine a6 ?_
    refine wm ?_
    refine wm ?_
    refine wv (OV.nilCheck rfl) ?_
    refine wv (OV.fieldAddr0 rfl i6) ?_
    refine wv (OV.load rfl (At.own 0 rfl) rfl d6) ?_
    refine WL.callS r6 rfl (p4 (zP pb) p.at1 ([98, 97, 100, 32, 118, 97, 108, 117, 101] : List UInt8)) rfl trivial rfl rfl (fun r H' hS => by cases hS) (fun c H' hS => ?_)
    cases hS
    exact hE.pan [0, 1] rfl rfl (.inr ⟨_, _, _, h, rfl⟩)
   ·replace h := l6 h hb
    refine b8 ?_
    refine kg (hK_12' [(0, zP pb)] _ ?_)
    refine a7 (fun _ hK_17' => ?_)
    refine a6 ?_
    refine wm ?_
    refine wv (OV.nilCheck rfl) ?_
    refine wv (OV.fieldAddr0 rfl r4) ?_
    refine wv (OV.load rfl (At.own 0 rfl) rfl d6) ?_
    obtain ⟨o_6', h⟩ := h
    refine wv (OV.add rfl rfl o_6') ?_
    refine wv (OV.nilCheck rfl) ?_
    refine wv (OV.fieldAddr0 rfl r4) ?_
    refine WL.store (vs := [zI (p.got + 1)]) (cs' := psC wa mb ({ p with got := p.got + 1 })) 0 rfl rfl rfl rfl m6 (Nat.le_of_ble_eq_true rfl) rfl rfl rfl ?_
    refine WL.nil ?_
    refine kg (hK_17' [(0, zP pb)] _ ?_)
    refine a6 ?_
    refine wm ?_
    refine wv (OV.nilCheck rfl) ?_
    refine wv (OV.fieldAddr0 rfl i6) ?_
    refine wv (OV.load rfl (At.own 0 rfl) rfl d6) ?_
    obtain ⟨o_7', h⟩ := h
    refine wv (OV.add rfl rfl o_7') ?_
    refine wv (OV.nilCheck rfl) ?_
    refine wv (OV.fieldAddr0 rfl i6) ?_
    refine WL.store (vs := [zI ((({ p with got := p.got + 1 }).at1) + 1)]) (cs' := psC wa mb ({ { p with got := p.got + 1 } with at1 := (({ p with got := p.got + 1 }).at1) + 1 })) 0 rfl rfl rfl rfl m6 (Nat.le_of_ble_eq_true rfl) rfl rfl rfl ?_
    refine WL.nil ?_
    exact hE.norm [0, 1] rfl rfl (.inl ⟨_, _, h, rfl⟩) (j6.none rfl)
  ·skip
   refine a7 (fun _ hK_18' => ?_)
   refine t8 9 [] m5 (by kernel_rfl) rfl (fun T_4' hT_4' => ?_)
   refine fv (fun _ => OV.move rfl) ?_
   refine fv (fun _ => OV.nilCheck rfl) ?_
   refine fv (fun _ => OV.fieldAddr0 rfl q9) ?_
   refine fv (fun _ => OV.fieldAddr rfl u3) ?_
   refine fv (fun _ => OV.load rfl (At.own 0 rfl) rfl d3) ?_
   refine fv (fun _ => OV.move rfl) ?_
   refine fv (fun _ => OV.nilCheck rfl) ?_
   refine fv (fun _ => OV.fieldAddr0 rfl r4) ?_
   refine fv (fun _ => OV.load rfl (At.own 0 rfl) rfl d6) ?_
   refine FL.weak (L' := fun γ => [(0, zP pb), (2, st (av.getD (q.at1).toNat default)), (3, zI (g8 (av.getD (q.at1).toNat default))), (4, zB (j5 (av.getD (q.at1).toNat default))), (42, st q.sops), (46, zI q.got)]) (fun γ => ⟨rfl, rfl, rfl, rfl, rfl, rfl, trivial⟩) (FL.nil (hT_4' (fun γ => [(0, zP pb), (2, st (av.getD (q.at1).toNat default)), (3, zI (g8 (av.getD (q.at1).toNat default))), (4, zB (j5 (av.getD (q.at1).toNat default))), (42, st q.sops), (46, zI q.got)]) (fun γ => ?_)))
   obtain ⟨o_8', h⟩ := h
   refine wv (OV.index rfl rfl d5 o_8') ?_
   refine WL.nil ?_
   refine kg (hK_18' [(0, zP pb), (2, st (av.getD (q.at1).toNat default)), (3, zI (g8 (av.getD (q.at1).toNat default))), (4, zB (j5 (av.getD (q.at1).toNat default))), (47, zU ((q.sops.getD q.got.toNat 0).toNat : Int))] _ ?_)
   refine d7 ?_
   refine a7 (fun _ hK_19' => ?_)
   refine a6 ?_
   refine wv (OV.eql rfl rfl) ?_
   refine wA ?_
   refine WL.nil ?_
   refine kg (hK_19' [(0, zP pb), (2, st (av.getD (q.at1).toNat default)), (3, zI (g8 (av.getD (q.at1).toNat default))), (4, zB (j5 (av.getD (q.at1).toNat default))), (47, zU ((q.sops.getD q.got.toNat 0).toNat : Int)), (48, zB (decide (((q.sops.getD q.got.toNat 0).toNat : Int) = 108)))] _ ?_)
   refine d4 (b := decide (((q.sops.getD q.got.toNat 0).toNat : Int) = 108)) rfl (fun hb => ?_) (fun hb => ?_)
   ·replace h := k9 h hb
    refine a6 ?_
    refine wm ?_
    refine wm ?_
    refine wv (OV.nilCheck rfl) ?_
    refine wv (OV.fieldAddr0 rfl j0) ?_
    refine wv (OV.fieldAddr0 rfl m8) ?_
    refine WL.store (vs := [st (av.getD (q.at1).toNat default)]) (cs' := psC wa mb ({ q with lens := (av.getD (q.at1).toNat default) })) 0 rfl rfl rfl rfl x9 (Nat.le_of_ble_eq_true rfl) rfl rfl rfl ?_
    refine WL.nil ?_
    exact kh (hK_11' ({ q with lens := (av.getD (q.at1).toNat default) }) h) [0, 1]
   ·replace h := l6 h hb
    refine a7 (fun _ hK_20' => ?_)
    refine a6 ?_
    refine wv (OV.eql rfl rfl) ?_
    refine wA ?_
    refine WL.nil ?_
    refine kg (hK_20' [(0, zP pb), (2, st (av.getD (q.at1).toNat default)), (3, zI (g8 (av.getD (q.at1).toNat default))), (4, zB (j5 (av.getD (q.at1).toNat default))), (47, zU ((q.sops.getD q.got.toNat 0).toNat : Int)), (55, zB (decide (((q.sops.getD q.got.toNat 0).toNat : Int) = 118)))] _ ?_)
    refine d4 (b := decide (((q.sops.getD q.got.toNat 0).toNat : Int) = 118)) rfl (fun hb => ?_) (fun hb => ?_)
    ·replace h := k9 h hb
     refine a6 ?_
     refine wm ?_
     refine wm ?_
     refine wv (OV.nilCheck rfl) ?_
     refine wv (OV.fieldAddr0 rfl j0) ?_
     refine wv (OV.fieldAddr0 rfl ab1) ?_
     refine WL.store (vs := [st (av.getD (q.at1).toNat default)]) (cs' := psC wa mb ({ q with view := (av.getD (q.at1).toNat default) })) 0 rfl rfl rfl rfl x9 (Nat.le_of_ble_eq_true rfl) rfl rfl rfl ?_
     refine WL.nil ?_
     exact kh (hK_11' ({ q with view := (av.getD (q.at1).toNat default) }) h) [0, 1]
    ·replace h := l6 h hb
     refine a7 (fun _ hK_21' => ?_)
     refine a6 ?_
     refine wv (OV.eql rfl rfl) ?_
     refine wA ?_
     refine WL.nil ?_
     refine kg (hK_21' [(0, zP pb), (2, st (av.getD (q.at1).toNat default)), (3, zI (g8 (av.getD (q.at1).toNat default))), (4, zB (j5 (av.getD (q.at1).toNat default))), (47, zU ((q.sops.getD q.got.toNat 0).toNat : Int)), (62, zB (decide (((q.sops.getD q.got.toNat 0).toNat : Int) = 115)))] _ ?_)
     refine d4 (b := decide (((q.sops.getD q.got.toNat 0).toNat : Int) = 115)) rfl (fun hb => ?_) (fun hb => ?_)
     ·replace h := k9 h hb
      refine a6 ?_
      refine wm ?_
      refine wm ?_
      refine wv (OV.nilCheck rfl) ?_
      refine wv (OV.fieldAddr0 rfl j0) ?_
      refine wv (OV.fieldAddr0 rfl aag) ?_
      refine WL.store (vs := [st (av.getD (q.at1).toNat default)]) (cs' := psC wa mb ({ q with src := (av.getD (q.at1).toNat default) })) 0 rfl rfl rfl rfl x9 (Nat.le_of_ble_eq_true rfl) rfl rfl rfl ?_
      refine WL.nil ?_
      exact kh (hK_11' ({ q with src := (av.getD (q.at1).toNat default) }) h) [0, 1]
     ·replace h := l6 h hb
      refine a7 (fun _ hK_22' => ?_)
      refine a6 ?_
      refine wv (OV.eql rfl rfl) ?_
      refine wA ?_
      refine WL.nil ?_
      refine kg (hK_22' [(0, zP pb), (2, st (av.getD (q.at1).toNat default)), (3, zI (g8 (av.getD (q.at1).toNat default))), (4, zB (j5 (av.getD (q.at1).toNat default))), (47, zU ((q.sops.getD q.got.toNat 0).toNat : Int)), (69, zB (decide (((q.sops.getD q.got.toNat 0).toNat : Int) = 116)))] _ ?_)
      refine d4 (b := decide (((q.sops.getD q.got.toNat 0).toNat : Int) = 116)) rfl (fun hb => ?_) (fun hb => ?_)
      ·replace h := k9 h hb
       refine a6 ?_
       refine wm ?_
       refine wm ?_
       refine wv (OV.nilCheck rfl) ?_
       refine wv (OV.fieldAddr0 rfl j0) ?_
       refine wv (OV.fieldAddr0 rfl abf) ?_
       refine WL.store (vs := [st (av.getD (q.at1).toNat default)]) (cs' := psC wa mb ({ q with text := (av.getD (q.at1).toNat default) })) 0 rfl rfl rfl rfl x9 (Nat.le_of_ble_eq_true rfl) rfl rfl rfl ?_
       refine WL.nil ?_
       exact kh (hK_11' ({ q with text := (av.getD (q.at1).toNat default) }) h) [0, 1]
      ·replace h := l6 h hb
       refine a7 (fun _ hK_23' => ?_)
       refine a6 ?_
       refine wv (OV.eql rfl rfl) ?_
       refine wA ?_
       refine WL.nil ?_
       refine kg (hK_23' [(0, zP pb), (3, zI (g8 (av.getD (q.at1).toNat default))), (4, zB (j5 (av.getD (q.at1).toNat default))), (47, zU ((q.sops.getD q.got.toNat 0).toNat : Int)), (76, zB (decide (((q.sops.getD q.got.toNat 0).toNat : Int) = 97)))] _ ?_)
       refine d4 (b := decide (((q.sops.getD q.got.toNat 0).toNat : Int) = 97)) rfl (fun hb => ?_) (fun hb => ?_)
       ·replace h := k9 h hb
        refine a6 ?_
        refine wm ?_
        refine wm ?_
        refine wv (OV.nilCheck rfl) ?_
        refine wv (OV.fieldAddr0 rfl j0) ?_
        refine wv (OV.fieldAddr0 rfl aby) ?_
        refine WL.store (vs := [zI (g8 (av.getD (q.at1).toNat default))]) (cs' := psC wa mb ({ q with at0 := g8 (av.getD (q.at1).toNat default) })) 0 rfl rfl rfl rfl m6 (Nat.le_of_ble_eq_true rfl) rfl rfl rfl ?_
        refine WL.nil ?_
        exact kh (hK_11' ({ q with at0 := g8 (av.getD (q.at1).toNat default) }) h) [0, 1]
       ·replace h := l6 h hb
        refine a7 (fun _ hK_24' => ?_)
        refine a6 ?_
        refine wv (OV.eql rfl rfl) ?_
        refine wA ?_
        refine WL.nil ?_
        refine kg (hK_24' [(0, zP pb), (3, zI (g8 (av.getD (q.at1).toNat default))), (4, zB (j5 (av.getD (q.at1).toNat default))), (83, zB (decide (((q.sops.getD q.got.toNat 0).toNat : Int) = 100)))] _ ?_)
        refine d4 (b := decide (((q.sops.getD q.got.toNat 0).toNat : Int) = 100)) rfl (fun hb => ?_) (fun hb => ?_)
        ·replace h := k9 h hb
         refine a6 ?_
         refine wm ?_
         refine wm ?_
         refine wv (OV.nilCheck rfl) ?_
         refine wv (OV.fieldAddr0 rfl j0) ?_
         refine wv (OV.fieldAddr0 rfl abv) ?_
         refine WL.store (vs := [zI (g8 (av.getD (q.at1).toNat default))]) (cs' := psC wa mb ({ q with del := g8 (av.getD (q.at1).toNat default) })) 0 rfl rfl rfl rfl m6 (Nat.le_of_ble_eq_true rfl) rfl rfl rfl ?_
         refine WL.nil ?_
         exact kh (hK_11' ({ q with del := g8 (av.getD (q.at1).toNat default) }) h) [0, 1]
        ·replace h := l6 h hb
         refine b8 ?_
         exact kh (hK_11' q h) [0, 1]
theorem abj (l : Int) (a : Bs) (q : PS) : (y8 l a q).got = q.got ∧ (y8 l a q).at1 = q.at1 ∧ (y8 l a q).sops = q.sops := by
 unfold y8
 (repeat' split) <;> exact ⟨rfl, rfl, rfl⟩
theorem af5 (pb mb : Nat) (wa : Value) (av : List Bs) (q : PS) (sl : List Int) (h : ano av q sl) (R : List (Nat × Obj)) (hR : aaq wa R av.length (av.flatMap m9)) :
  i7 Tryd.prog 20 [.pointer (some ⟨pb, 0, none⟩)] (R ++ []) [.blk pb (.cells (psC wa mb q).toArray 51 (0, 0)), cnt Tryd.prog 5 3 mb sl]
   (fun o => (∃ q2 sl2, amu av q sl q2 sl2 ∧ o = .ret (.tuple #[]) [.blk pb (.cells (psC wa mb q2).toArray 51 (0, 0)), cnt Tryd.prog 5 3 mb sl2]) ∨
    (∃ e why q2 sl2, al2 av q sl e why ∧ o = .pan [{ v := v7 e why, recovered := false }] [.blk pb (.cells (psC wa mb q2).toArray 51 (0, 0)), cnt Tryd.prog 5 3 mb sl2])) := by
 refine (aie pb wa mb q av sl R hR (fun q2 sl2 => amu av q sl q2 sl2) (fun v _ _ => ∃ e why, al2 av q sl e why ∧ v = v7 e why) ?_).weak ?_
 ·obtain ⟨hA, i0, i1, g0, g1, g2⟩ := h
  have hA1 := hA.1
  unfold ace
  have hE : ∀ {e : Int} {why : Bs}, ack av q = .error (e, why) → ∃ e' why', al2 av q sl e' why' ∧ v7 e why = v7 e' why' := fun h => ⟨_, _, h, rfl⟩
  by_cases k1 : q.got = q.sops.length
  ·rw [if_pos (by rw [decide_eq_true_eq]; exact k1)]
   exact hE (by unfold ack; rw [if_pos k1])
  rw [if_neg (by rw [decide_eq_true_eq]; exact k1)]
  generalize hl : (((q.sops.getD q.got.toNat 0).toNat : Nat) : Int) = l
  have hu : ack av q = (if (l = 97 ∨ l = 100) ∧ j5 (e9 av q.at1) = false then .error (q.at1, aj2) else .ok { y8 l (e9 av q.at1) q with got := q.got + 1, at1 := q.at1 + 1 }) := by
   unfold ack; rw [if_neg k1]; simp only [hl]
  refine ⟨⟨i0, i1⟩, hA.at q.at1, fun p => p = y8 l (e9 av q.at1) q, ?_, ⟨g0, by omega⟩, ?_⟩
  ·rintro p rfl
   obtain ⟨e1, e2, e3⟩ := abj l (e9 av q.at1) q
   rw [e1, e3, hl]
   refine ⟨⟨g0, by omega⟩, ?_⟩
   by_cases k2 : (l = 97 ∨ l = 100) ∧ j5 (e9 av q.at1) = false
   ·rw [if_pos (by
     rw [show j5 (av.getD (q.at1).toNat default) = false from k2.2]
     rcases k2.1 with h | h <;> simp [h])]
    rw [e2]
    exact hE (by rw [hu, if_pos k2])
   ·rw [if_neg (by
     rw [show j5 (av.getD (q.at1).toNat default) = j5 (e9 av q.at1) from rfl]
     simp only [Bool.and_eq_true, Bool.or_eq_true, decide_eq_true_eq, Bool.not_eq_true', not_and]
     intro h1 h2; exact k2 ⟨h1, h2⟩)]
    have e2' : ({ y8 l (e9 av q.at1) q with got := q.got + 1 } : PS).at1 = q.at1 := e2
    refine ⟨by unfold I64; omega, by rw [e2']; unfold I64; omega, ?_⟩
    refine ⟨?_, rfl⟩
    rw [hu, if_neg k2, e2']
    simp only [e3]
  ·rw [show av.getD (q.at1).toNat default = e9 av q.at1 from rfl]
   unfold y8
   by_cases c1 : l = 108
   ·rw [if_pos (by simpa using c1), if_pos c1]
   rw [if_neg (by simpa using c1), if_neg c1]
   by_cases c2 : l = 118
   ·rw [if_pos (by simpa using c2), if_pos c2]
   rw [if_neg (by simpa using c2), if_neg c2]
   by_cases c3 : l = 115
   ·rw [if_pos (by simpa using c3), if_pos c3]
   rw [if_neg (by simpa using c3), if_neg c3]
   by_cases c4 : l = 116
   ·rw [if_pos (by simpa using c4), if_pos c4]
   rw [if_neg (by simpa using c4), if_neg c4]
   by_cases c5 : l = 97
   ·rw [if_pos (by simpa using c5), if_pos c5]
   rw [if_neg (by simpa using c5), if_neg c5]
   by_cases c6 : l = 100
   ·rw [if_pos (by simpa using c6), if_pos c6]
   rw [if_neg (by simpa using c6), if_neg c6]
 ·rintro o (⟨q2, sl2, h, rfl⟩ | ⟨v, q2, sl2, ⟨e, why, h, rfl⟩, rfl⟩)
  ·exact .inl ⟨q2, sl2, h, rfl⟩
  ·exact .inr ⟨e, why, q2, sl2, h, rfl⟩
def goM (av : List Bs) : Nat → Bool → PS → List Int → Except (Int × Bs) PS
 | 0, _, q, _ => if q.got < q.sops.length then .error (av.length, acl) else .ok q
 | f + 1, plain, q, sl =>
  if q.at1 < av.length then
   if (!plain) = true ∧ e9 av q.at1 = [45, 45] then goM av f true { q with at1 := q.at1 + 1 } sl
   else if (!plain) = true ∧ 1 < (e9 av q.at1).length ∧ ((e9 av q.at1).getD 0 0).toNat = 45 then
    match aa5 av q sl with
    | .error e => .error e
    | .ok (q2, sl2) => goM av f plain q2 sl2
   else
    match ack av q with
    | .error e => .error e
    | .ok q2 => goM av f plain q2 sl
  else if q.got < q.sops.length then .error (av.length, acl) else .ok q
def q6 (av : List Bs) (q : PS) : PS :=
 let nm := e9 av 0
 let s := b6 nm
 let p : PS := { q with sname := s.1, sops := s.2.1, sopts := s.2.2, name := nm, budget := 1024, at1 := 1 }
 if nm = [119, 111, 114, 100, 115] then { p with count := 10 } else if nm = [115, 116, 114, 101, 97, 109] then { p with chunk := 16 } else p
def w8 (av : List Bs) (q : PS) : Except (Int × Bs) PS :=
 if av.length = 0 then .error (0, anv)
 else if u6 (e9 av 0) = false then .error (0, akf)
 else goM av av.length false (q6 av q) []
def anu (av : List Bs) (q : PS) (sl : List Int) : Prop := AvB av ∧ q.got = 0 ∧ sl = []
def am5 (av : List Bs) (q : PS) (_sl : List Int) (q2 : PS) (_sl2 : List Int) : Prop := w8 av q = .ok q2
def alp (av : List Bs) (q : PS) (_sl : List Int) (e : Int) (why : Bs) : Prop := w8 av q = .error (e, why)
def ah4 (q : PS) (av : List (List UInt8)) (sl : List Int) (K : PS → (List Int) → Prop) (KP : Value → PS → (List Int) → Prop) : Prop :=
 (if (decide ((av.length : Int) = 0)) = true then
  KP (Value.iface 27 (Value.agg [zI 140, zI 0, st ([110, 111, 32, 99, 111, 109, 109, 97, 110, 100] : List UInt8)].toArray)) q sl
 else
  (0 ≤ (0 : Int) ∧ (0 : Int) < (av.length : Int)) ∧
  (if (!(u6 (av.getD ((0 : Int)).toNat default))) = true then
   KP (Value.iface 27 (Value.agg [zI 140, zI 0, st ([117, 110, 107, 110, 111, 119, 110, 32, 99, 111, 109, 109, 97, 110, 100] : List UInt8)].toArray)) ({ q with sname := (b6 (av.getD ((0 : Int)).toNat default)).1, sops := (b6 (av.getD ((0 : Int)).toNat default)).2.1, sopts := (b6 (av.getD ((0 : Int)).toNat default)).2.2 }) sl
  else
   (0 ≤ (0 : Int) ∧ (0 : Int) < (av.length : Int)) ∧
   ∃ (J0 : PS → Prop),
    (∀ (p : PS), J0 p →
     ∃ (Inv : Bool → PS → (List Int) → Prop) (mu : Bool → PS → (List Int) → Nat),
      Inv false ({ p with at1 := 1 }) sl ∧ ∀ (plain_1' : Bool) (p_2' : PS) (c_1' : List Int), Inv plain_1' p_2' c_1' →
       (if (decide (p_2'.at1 < (av.length : Int))) = true then
        (0 ≤ p_2'.at1 ∧ p_2'.at1 < (av.length : Int)) ∧
        (if ((!plain_1') && (decide ((av.getD (p_2'.at1).toNat default) = ([45, 45] : List UInt8)))) = true then
         (I64 (p_2'.at1 + 1)) ∧
         Inv true ({ p_2' with at1 := p_2'.at1 + 1 }) c_1' ∧ mu true ({ p_2' with at1 := p_2'.at1 + 1 }) c_1' < mu plain_1' p_2' c_1'
        else
         (((!plain_1') && (decide (1 < ((av.getD (p_2'.at1).toNat default).length : Int)))) = true → (0 ≤ (0 : Int) ∧ (0 : Int) < (av.getD (p_2'.at1).toNat default).length)) ∧
         (if (((!plain_1') && (decide (1 < ((av.getD (p_2'.at1).toNat default).length : Int)))) && (decide ((((av.getD (p_2'.at1).toNat default).getD (0 : Int).toNat 0).toNat : Int) = 45))) = true then
          (anz av p_2' c_1') ∧
          (∀ (q_9' : PS) (sl_9' : List Int), anl av p_2' c_1'  q_9' sl_9' →
           Inv plain_1' q_9' sl_9' ∧ mu plain_1' q_9' sl_9' < mu plain_1' p_2' c_1') ∧
          (∀ (at0_4' : Int) (why_4' : List UInt8) (q_10' : PS) (sl_10' : List Int), amf av p_2' c_1'  at0_4' why_4' →
           KP (Value.iface 27 (Value.agg [zI 140, zI at0_4', st why_4'].toArray)) q_10' sl_10')
         else
          (ano av p_2' c_1') ∧
          (∀ (q_11' : PS) (sl_11' : List Int), amu av p_2' c_1'  q_11' sl_11' →
           Inv plain_1' q_11' sl_11' ∧ mu plain_1' q_11' sl_11' < mu plain_1' p_2' c_1') ∧
          (∀ (at0_5' : Int) (why_5' : List UInt8) (q_12' : PS) (sl_12' : List Int), al2 av p_2' c_1'  at0_5' why_5' →
           KP (Value.iface 27 (Value.agg [zI 140, zI at0_5', st why_5'].toArray)) q_12' sl_12')))
       else
        (if (decide (p_2'.got < (p_2'.sops.length : Int))) = true then
         KP (Value.iface 27 (Value.agg [zI 140, zI (av.length : Int), st ([109, 105, 115, 115, 105, 110, 103, 32, 111, 112, 101, 114, 97, 110, 100] : List UInt8)].toArray)) p_2' c_1'
        else
         K p_2' c_1'))) ∧
    (if (decide (({ { { q with sname := (b6 (av.getD ((0 : Int)).toNat default)).1, sops := (b6 (av.getD ((0 : Int)).toNat default)).2.1, sopts := (b6 (av.getD ((0 : Int)).toNat default)).2.2 } with name := (av.getD ((0 : Int)).toNat default) } with budget := 1024 }).name = ([119, 111, 114, 100, 115] : List UInt8))) = true then
     J0 ({ { { { q with sname := (b6 (av.getD ((0 : Int)).toNat default)).1, sops := (b6 (av.getD ((0 : Int)).toNat default)).2.1, sopts := (b6 (av.getD ((0 : Int)).toNat default)).2.2 } with name := (av.getD ((0 : Int)).toNat default) } with budget := 1024 } with count := 10 })
    else
     (if (decide (({ { { q with sname := (b6 (av.getD ((0 : Int)).toNat default)).1, sops := (b6 (av.getD ((0 : Int)).toNat default)).2.1, sopts := (b6 (av.getD ((0 : Int)).toNat default)).2.2 } with name := (av.getD ((0 : Int)).toNat default) } with budget := 1024 }).name = ([115, 116, 114, 101, 97, 109] : List UInt8))) = true then
      J0 ({ { { { q with sname := (b6 (av.getD ((0 : Int)).toNat default)).1, sops := (b6 (av.getD ((0 : Int)).toNat default)).2.1, sopts := (b6 (av.getD ((0 : Int)).toNat default)).2.2 } with name := (av.getD ((0 : Int)).toNat default) } with budget := 1024 } with chunk := 16 })
     else
      J0 ({ { { q with sname := (b6 (av.getD ((0 : Int)).toNat default)).1, sops := (b6 (av.getD ((0 : Int)).toNat default)).2.1, sopts := (b6 (av.getD ((0 : Int)).toNat default)).2.2 } with name := (av.getD ((0 : Int)).toNat default) } with budget := 1024 })))))
theorem anh (pb : Nat) (wa : Value) (mb : Nat) (te : TypeId) (fre : Nat × Nat) (q : PS) (av : List (List UInt8)) (sl : List Int) (Ri1 : List (Nat × Obj)) (hRi1 : aaq wa Ri1 av.length (av.flatMap m9)) (K : PS → (List Int) → Prop) (KP : Value → PS → (List Int) → Prop) (h : ah4 q av sl K KP) :
  i7 Tryd.prog 11 [zP pb] (Ri1 ++ [(4, .cells [st ([99, 104, 101, 99, 107] : List UInt8), st ([108] : List UInt8), st ([98] : List UInt8), st ([99, 111, 100, 101] : List UInt8), st ([108] : List UInt8), st ([98] : List UInt8), st ([119, 111, 114, 100, 115] : List UInt8), st ([108] : List UInt8), st ([98, 110] : List UInt8), st ([103, 101, 116] : List UInt8), st ([108, 115] : List UInt8), st ([98, 111] : List UInt8), st ([99, 97, 110, 111, 110] : List UInt8), st ([108, 115] : List UInt8), st ([98, 111] : List UInt8), st ([119, 104, 101, 114, 101] : List UInt8), st ([108, 115] : List UInt8), st ([98] : List UInt8), st ([115, 116, 114, 101, 97, 109] : List UInt8), st ([108, 115] : List UInt8), st ([98, 99] : List UInt8), st ([99, 114, 101, 97, 116, 101] : List UInt8), st ([108, 118] : List UInt8), st ([98, 111] : List UInt8), st ([112, 117, 116] : List UInt8), st ([108, 118, 115] : List UInt8), st ([98, 111] : List UInt8), st ([101, 100, 105, 116] : List UInt8), st ([108, 115, 97, 100, 116] : List UInt8), st ([98, 111] : List UInt8)].toArray te fre)]) [HA.blk pb (.cells (psC wa mb q).toArray 51 (0, 0)), cnt Tryd.prog 5 3 mb sl] (fun o => (∃ (d : PS) (D : List Int), K d D ∧ o = .ret (Value.tuple #[]) [HA.blk pb (.cells (psC wa mb d).toArray 51 (0, 0)), cnt Tryd.prog 5 3 mb D]) ∨ (∃ (pv : Value) (d : PS) (D : List Int), KP pv d D ∧ o = .pan [{ v := pv, recovered := false }] [HA.blk pb (.cells (psC wa mb d).toArray 51 (0, 0)), cnt Tryd.prog 5 3 mb D])) := by
 unfold ah4 at h
 refine d8 (n := 133) (L0 := [(0, zP pb)]) Tryd.func11 rfl rfl rfl rfl (fun w0 M Q hE => ?_)
 have hi1 : LIn ⟨133, [], w0, M, (Ri1 ++ [(4, .cells [st ([99, 104, 101, 99, 107] : List UInt8), st ([108] : List UInt8), st ([98] : List UInt8), st ([99, 111, 100, 101] : List UInt8), st ([108] : List UInt8), st ([98] : List UInt8), st ([119, 111, 114, 100, 115] : List UInt8), st ([108] : List UInt8), st ([98, 110] : List UInt8), st ([103, 101, 116] : List UInt8), st ([108, 115] : List UInt8), st ([98, 111] : List UInt8), st ([99, 97, 110, 111, 110] : List UInt8), st ([108, 115] : List UInt8), st ([98, 111] : List UInt8), st ([119, 104, 101, 114, 101] : List UInt8), st ([108, 115] : List UInt8), st ([98] : List UInt8), st ([115, 116, 114, 101, 97, 109] : List UInt8), st ([108, 115] : List UInt8), st ([98, 99] : List UInt8), st ([99, 114, 101, 97, 116, 101] : List UInt8), st ([108, 118] : List UInt8), st ([98, 111] : List UInt8), st ([112, 117, 116] : List UInt8), st ([108, 118, 115] : List UInt8), st ([98, 111] : List UInt8), st ([101, 100, 105, 116] : List UInt8), st ([108, 115, 97, 100, 116] : List UInt8), st ([98, 111] : List UInt8)].toArray te fre)])⟩ wa av.length (av.flatMap m9) := LIn.mk hRi1 (fun p hp => by simp [hp])
 refine a7 (fun _ hK => ?_)
 refine a7 (fun _ hK_1' => ?_)
 refine a6 ?_
 refine wm ?_
 refine wv (OV.nilCheck rfl) ?_
 refine wv (OV.fieldAddr0 rfl m4) ?_
 refine wv (OV.load rfl (At.own 0 rfl) rfl p3) ?_
 refine wv (OV.lenIn hi1 rfl g9) ?_
 refine wv (OV.eql rfl rfl) ?_
 refine WL.nil ?_
 refine kg (hK_1' [(0, zP pb), (10, zB (decide ((av.length : Int) = 0)))] _ ?_)
 refine d4 (b := decide ((av.length : Int) = 0)) rfl (fun hb => ?_) (fun hb => ?_)
 ·replace h := k9 h hb
  refine a6 ?_
  refine wm ?_
  refine WL.callS r6 rfl (p4 (zP pb) 0 ([110, 111, 32, 99, 111, 109, 109, 97, 110, 100] : List UInt8)) rfl trivial rfl rfl (fun r H' hS => by cases hS) (fun c H' hS => ?_)
  cases hS
  exact hE.pan [0, 1] rfl rfl (.inr ⟨_, _, _, h, rfl⟩)
 ·replace h := l6 h hb
  refine b8 ?_
  refine kg (hK [(0, zP pb)] _ ?_)
  refine a7 (fun _ hK_2' => ?_)
  refine a6 ?_
  refine wA ?_
  refine WL.nil ?_
  refine kg (hK_2' [(0, zP pb)] _ ?_)
  refine a7 (fun _ hK_3' => ?_)
  refine a7 (fun _ hK_4' => ?_)
  refine a6 ?_
  refine wm ?_
  refine wm ?_
  refine wv (OV.nilCheck rfl) ?_
  refine wv (OV.fieldAddr0 rfl m4) ?_
  refine wv (OV.load rfl (At.own 0 rfl) rfl p3) ?_
  obtain ⟨o, h⟩ := h
  refine wv (OV.indexIn hi1 rfl rfl g9 o) ?_
  refine wv (OV.loadInE1 (f := m9) hi1 rfl l9 (by omega) rfl d3) ?_
  refine WL.call (A := []) afg rfl (afr te fre (av.getD ((0 : Int)).toNat default)) rfl ⟨.inr (List.mem_append_right _ (List.mem_of_getElem? (i := 0) rfl)), trivial⟩ rfl rfl ?_
  refine wm ?_
  refine wv (OV.extract 0 rfl rfl) ?_
  refine wv (OV.extract 1 rfl rfl) ?_
  refine wv (OV.nilCheck rfl) ?_
  refine wv (OV.fieldAddr0 rfl q9) ?_
  refine WL.store (vs := [st ((b6 (av.getD ((0 : Int)).toNat default)).1), st ((b6 (av.getD ((0 : Int)).toNat default)).2.1), st ((b6 (av.getD ((0 : Int)).toNat default)).2.2)]) (cs' := psC wa mb ({ q with sname := (b6 (av.getD ((0 : Int)).toNat default)).1, sops := (b6 (av.getD ((0 : Int)).toNat default)).2.1, sopts := (b6 (av.getD ((0 : Int)).toNat default)).2.2 })) 0 rfl rfl rfl rfl m7 (Nat.le_of_ble_eq_true rfl) rfl rfl rfl ?_
  refine wA ?_
  refine WL.nil ?_
  refine kg (hK_4' [(0, zP pb), (2, zB (u6 (av.getD ((0 : Int)).toNat default)))] _ ?_)
  refine a7 (fun _ hK_5' => ?_)
  refine a6 ?_
  refine wm ?_
  refine wv (OV.not rfl) ?_
  refine WL.nil ?_
  refine kg (hK_5' [(0, zP pb), (27, zB (!(u6 (av.getD ((0 : Int)).toNat default))))] _ ?_)
  refine d4 (b := !(u6 (av.getD ((0 : Int)).toNat default))) rfl (fun hb => ?_) (fun hb => ?_)
  ·replace h := k9 h hb
   refine a6 ?_
   refine wm ?_
   refine WL.callS r6 rfl (p4 (zP pb) 0 ([117, 110, 107, 110, 111, 119, 110, 32, 99, 111, 109, 109, 97, 110, 100] : List UInt8)) rfl trivial rfl rfl (fun r H' hS => by cases hS) (fun c H' hS => ?_)
   cases hS
   exact hE.pan [0, 1] rfl rfl (.inr ⟨_, _, _, h, rfl⟩)
  ·replace h := l6 h hb
   refine b8 ?_
   refine kg (hK_3' [(0, zP pb)] _ ?_)
   refine a7 (fun _ hK_6' => ?_)
   refine a6 ?_
   refine wm ?_
   refine wm ?_
   refine wv (OV.nilCheck rfl) ?_
   refine wv (OV.fieldAddr0 rfl m4) ?_
   refine wv (OV.load rfl (At.own 0 rfl) rfl p3) ?_
   obtain ⟨o_1', h⟩ := h
   refine wv (OV.indexIn hi1 rfl rfl g9 o_1') ?_
   refine wv (OV.loadInE1 (f := m9) hi1 rfl l9 (by omega) rfl d3) ?_
   refine wv (OV.nilCheck rfl) ?_
   refine wv (OV.fieldAddr0 rfl j0) ?_
   refine wv (OV.fieldAddr0 rfl w7) ?_
   refine WL.store (vs := [st (av.getD ((0 : Int)).toNat default)]) (cs' := psC wa mb ({ { q with sname := (b6 (av.getD ((0 : Int)).toNat default)).1, sops := (b6 (av.getD ((0 : Int)).toNat default)).2.1, sopts := (b6 (av.getD ((0 : Int)).toNat default)).2.2 } with name := (av.getD ((0 : Int)).toNat default) })) 0 rfl rfl rfl rfl x9 (Nat.le_of_ble_eq_true rfl) rfl rfl rfl ?_
   refine WL.nil ?_
   refine kg (hK_6' [(0, zP pb)] _ ?_)
   refine a7 (fun _ hK_7' => ?_)
   refine a6 ?_
   refine wm ?_
   refine wv (OV.nilCheck rfl) ?_
   refine wv (OV.fieldAddr0 rfl j0) ?_
   refine wv (OV.fieldAddr0 rfl z8) ?_
   refine WL.store (vs := [zI 1024]) (cs' := psC wa mb ({ { { q with sname := (b6 (av.getD ((0 : Int)).toNat default)).1, sops := (b6 (av.getD ((0 : Int)).toNat default)).2.1, sopts := (b6 (av.getD ((0 : Int)).toNat default)).2.2 } with name := (av.getD ((0 : Int)).toNat default) } with budget := 1024 })) 0 rfl rfl rfl rfl m6 (Nat.le_of_ble_eq_true rfl) rfl rfl rfl ?_
   refine WL.nil ?_
   refine kg (hK_7' [(0, zP pb)] _ ?_)
   obtain ⟨J0, hJ, h⟩ := h
   refine q7 (X := PS) (fun σ => J0 σ) (fun σ => [(0, zP pb)]) (fun σ => [HA.blk pb (.cells (psC wa mb σ).toArray 51 (0, 0)), cnt Tryd.prog 5 3 mb sl]) ?_ (fun K0_11' hK_11' => ?_)
   ·rintro p hj
    replace h := hJ p hj
    show WC _ _ _ _ [(0, zP pb)] [HA.blk pb (.cells (psC wa mb p).toArray 51 (0, 0)), cnt Tryd.prog 5 3 mb sl]
    refine a7 (fun _ hK_12' => ?_)
    refine a6 ?_
    refine wA ?_
    refine WL.nil ?_
    refine kg (hK_12' [(0, zP pb), (3, zB false)] _ ?_)
    refine a7 (fun _ hK_13' => ?_)
    refine a7 (fun _ hK_14' => ?_)
    refine a6 ?_
    refine wm ?_
    refine wv (OV.nilCheck rfl) ?_
    refine wv (OV.fieldAddr0 rfl i6) ?_
    refine WL.store (vs := [zI 1]) (cs' := psC wa mb ({ p with at1 := 1 })) 0 rfl rfl rfl rfl m6 (Nat.le_of_ble_eq_true rfl) rfl rfl rfl ?_
    refine WL.nil ?_
    refine kg (hK_14' [(0, zP pb), (3, zB false)] _ ?_)
    refine d7 ?_
    obtain ⟨Inv, mu, h0, hr⟩ := h
    refine abh (S := Bool × PS × (List Int)) (fun σ => Inv σ.1 σ.2.1 σ.2.2) (fun σ => mu σ.1 σ.2.1 σ.2.2) (fun σ => [(0, zP pb), (3, zB σ.1)]) (fun σ => [HA.blk pb (.cells (psC wa mb σ.2.1).toArray 51 (0, 0)), cnt Tryd.prog 5 3 mb σ.2.2]) (false, { p with at1 := 1 }, sl) h0 ⟨rfl, rfl, trivial⟩ rfl ?_
    rintro ⟨plain_1', p_2', c_1'⟩ hi K0_31' hK_31'
    have h := hr plain_1' p_2' c_1' hi
    show WC _ _ _ _ [(0, zP pb), (3, zB plain_1')] [HA.blk pb (.cells (psC wa mb p_2').toArray 51 (0, 0)), cnt Tryd.prog 5 3 mb c_1']
    refine a7 (fun _ hK_32' => ?_)
    refine a7 (fun _ hK_33' => ?_)
    refine t8 9 [] m5 (by kernel_rfl) rfl (fun T_4' hT_4' => ?_)
    refine fv (fun _ => OV.move rfl) ?_
    refine fv (fun _ => OV.nilCheck rfl) ?_
    refine fv (fun _ => OV.fieldAddr0 rfl i6) ?_
    refine fv (fun _ => OV.load rfl (At.own 0 rfl) rfl d6) ?_
    refine fv (fun _ => OV.move rfl) ?_
    refine fv (fun _ => OV.nilCheck rfl) ?_
    refine fv (fun _ => OV.fieldAddr0 rfl m4) ?_
    refine fv (fun _ => OV.load rfl (At.own 0 rfl) rfl p3) ?_
    refine fv (fun _ => OV.lenIn hi1 rfl g9) ?_
    refine FL.weak (L' := fun γ => [(0, zP pb), (3, zB plain_1'), (67, zI p_2'.at1), (72, zI (av.length : Int))]) (fun γ => ⟨rfl, rfl, rfl, rfl, trivial⟩) (FL.nil (hT_4' (fun γ => [(0, zP pb), (3, zB plain_1'), (67, zI p_2'.at1), (72, zI (av.length : Int))]) (fun γ => ?_)))
    refine wv (OV.lss rfl rfl) ?_
    refine WL.nil ?_
    refine kg (hK_33' [(0, zP pb), (3, zB plain_1'), (73, zB (decide (p_2'.at1 < (av.length : Int))))] _ ?_)
    refine d4 (b := decide (p_2'.at1 < (av.length : Int))) rfl (fun hb => ?_) (fun hb => ?_)
    ·replace h := k9 h hb
     refine b8 ?_
     refine kg (hK_32' [(0, zP pb), (3, zB plain_1')] _ ?_)
     refine d7 ?_
     refine a7 (fun _ hK_34' => ?_)
     refine t8 8 [] m5 (by kernel_rfl) rfl (fun T_5' hT_5' => ?_)
     refine fv (fun _ => OV.move rfl) ?_
     refine fv (fun _ => OV.nilCheck rfl) ?_
     refine fv (fun _ => OV.fieldAddr0 rfl m4) ?_
     refine fv (fun _ => OV.load rfl (At.own 0 rfl) rfl p3) ?_
     refine fv (fun _ => OV.move rfl) ?_
     refine fv (fun _ => OV.nilCheck rfl) ?_
     refine fv (fun _ => OV.fieldAddr0 rfl i6) ?_
     refine fv (fun _ => OV.load rfl (At.own 0 rfl) rfl d6) ?_
     refine FL.weak (L' := fun γ => [(0, zP pb), (3, zB plain_1'), (77, wa), (81, zI p_2'.at1)]) (fun γ => ⟨rfl, rfl, rfl, rfl, trivial⟩) (FL.nil (hT_5' (fun γ => [(0, zP pb), (3, zB plain_1'), (77, wa), (81, zI p_2'.at1)]) (fun γ => ?_)))
     obtain ⟨o_16', h⟩ := h
     refine wv (OV.indexIn hi1 rfl rfl g9 o_16') ?_
     refine wv (OV.loadInE1 (f := m9) hi1 rfl l9 (by omega) rfl d3) ?_
     refine wA ?_
     refine WL.nil ?_
     refine kg (hK_34' [(0, zP pb), (3, zB plain_1'), (4, st (av.getD (p_2'.at1).toNat default))] _ ?_)
     refine d7 ?_
     refine a7 (fun _ hK_35' => ?_)
     refine a6 ?_
     refine wm ?_
     refine wv (OV.not rfl) ?_
     refine wm ?_
     refine WL.cut 3 [(0, zP pb), (3, zB plain_1'), (4, st (av.getD (p_2'.at1).toNat default)), (92, zB ((!plain_1') && (decide ((av.getD (p_2'.at1).toNat default) = ([45, 45] : List UInt8)))))] ?_ (fun K0_36' hK_36' => ?_)
     rotate_left
     ·refine WL.split (!plain_1') (fun hb => ?_) (fun hb => ?_)
      ·refine WL.set 89 rfl (congrArg zB hb) ?_
       refine wm ?_
       refine wv (OV.eqlS rfl rfl) ?_
       refine wv (OV.pickT rfl rfl) ?_
       refine WL.set 92 rfl (bT (v := decide ((av.getD (p_2'.at1).toNat default) = ([45, 45] : List UInt8))) hb) ?_
       exact WL.end_ (kg hK_36')
      ·refine WL.set 89 rfl (congrArg zB hb) ?_
       refine wk ?_
       refine wk ?_
       refine wv (OV.pickF rfl rfl) ?_
       refine WL.set 92 rfl (bF (v := decide ((av.getD (p_2'.at1).toNat default) = ([45, 45] : List UInt8))) hb) ?_
       exact WL.end_ (kg hK_36')
     refine wA ?_
     refine WL.nil ?_
     refine kg (hK_35' [(0, zP pb), (3, zB plain_1'), (4, st (av.getD (p_2'.at1).toNat default)), (86, zB ((!plain_1') && (decide ((av.getD (p_2'.at1).toNat default) = ([45, 45] : List UInt8)))))] _ ?_)
     refine d4 (b := (!plain_1') && (decide ((av.getD (p_2'.at1).toNat default) = ([45, 45] : List UInt8)))) rfl (fun hb => ?_) (fun hb => ?_)
     ·replace h := k9 h hb
      refine a7 (fun _ hK_37' => ?_)
      refine a6 ?_
      refine wA ?_
      refine WL.nil ?_
      refine kg (hK_37' [(0, zP pb), (3, zB true)] _ ?_)
      refine a6 ?_
      refine wm ?_
      refine wv (OV.nilCheck rfl) ?_
      refine wv (OV.fieldAddr0 rfl i6) ?_
      refine wv (OV.load rfl (At.own 0 rfl) rfl d6) ?_
      obtain ⟨o_18', h⟩ := h
      refine wv (OV.add rfl rfl o_18') ?_
      refine wv (OV.nilCheck rfl) ?_
      refine wv (OV.fieldAddr0 rfl i6) ?_
      refine WL.store (vs := [zI (p_2'.at1 + 1)]) (cs' := psC wa mb ({ p_2' with at1 := p_2'.at1 + 1 })) 0 rfl rfl rfl rfl m6 (Nat.le_of_ble_eq_true rfl) rfl rfl rfl ?_
      refine WL.nil ?_
      exact kh (hK_31' (true, { p_2' with at1 := p_2'.at1 + 1 }, c_1') h.1 h.2) [0, 1]
     ·replace h := l6 h hb
      refine a7 (fun _ hK_38' => ?_)
      refine a6 ?_
      refine wm ?_
      refine wv (OV.not rfl) ?_
      refine wm ?_
      refine WL.cut 4 [(0, zP pb), (3, zB plain_1'), (4, st (av.getD (p_2'.at1).toNat default)), (107, zB ((!plain_1') && (decide (1 < ((av.getD (p_2'.at1).toNat default).length : Int)))))] ?_ (fun K0_39' hK_39' => ?_)
      rotate_left
      ·refine WL.split (!plain_1') (fun hb => ?_) (fun hb => ?_)
       ·refine WL.set 103 rfl (congrArg zB hb) ?_
        refine wm ?_
        refine wv (OV.len rfl d5) ?_
        refine wv (OV.gtr rfl rfl) ?_
        refine wv (OV.pickT rfl rfl) ?_
        refine WL.set 107 rfl (bT (v := decide (1 < ((av.getD (p_2'.at1).toNat default).length : Int))) hb) ?_
        exact WL.end_ (kg hK_39')
       ·refine WL.set 103 rfl (congrArg zB hb) ?_
        refine wk ?_
        refine wk ?_
        refine wk ?_
        refine wv (OV.pickF rfl rfl) ?_
        refine WL.set 107 rfl (bF (v := decide (1 < ((av.getD (p_2'.at1).toNat default).length : Int))) hb) ?_
        exact WL.end_ (kg hK_39')
      refine wm ?_
      obtain ⟨o_21', h⟩ := h
      refine WL.cut 4 [(0, zP pb), (3, zB plain_1'), (112, zB (((!plain_1') && (decide (1 < ((av.getD (p_2'.at1).toNat default).length : Int)))) && (decide ((((av.getD (p_2'.at1).toNat default).getD (0 : Int).toNat 0).toNat : Int) = 45))))] ?_ (fun K0_40' hK_40' => ?_)
      rotate_left
      ·refine WL.split ((!plain_1') && (decide (1 < ((av.getD (p_2'.at1).toNat default).length : Int)))) (fun hb => ?_) (fun hb => ?_)
       ·have o_20' := o_21' hb
        refine WL.set 108 rfl (congrArg zB hb) ?_
        refine wm ?_
        refine wv (OV.index rfl rfl d5 o_20') ?_
        refine wv (OV.eql rfl rfl) ?_
        refine wv (OV.pickT rfl rfl) ?_
        refine WL.set 112 rfl (bT (v := decide ((((av.getD (p_2'.at1).toNat default).getD (0 : Int).toNat 0).toNat : Int) = 45)) hb) ?_
        exact WL.end_ (kg hK_40')
       ·refine WL.set 108 rfl (congrArg zB hb) ?_
        refine wk ?_
        refine wk ?_
        refine wk ?_
        refine wv (OV.pickF rfl rfl) ?_
        refine WL.set 112 rfl (bF (v := decide ((((av.getD (p_2'.at1).toNat default).getD (0 : Int).toNat 0).toNat : Int) = 45)) hb) ?_
        exact WL.end_ (kg hK_40')
      refine wA ?_
      refine WL.nil ?_
      refine kg (hK_38' [(0, zP pb), (3, zB plain_1'), (100, zB (((!plain_1') && (decide (1 < ((av.getD (p_2'.at1).toNat default).length : Int)))) && (decide ((((av.getD (p_2'.at1).toNat default).getD (0 : Int).toNat 0).toNat : Int) = 45))))] _ ?_)
      refine d4 (b := ((!plain_1') && (decide (1 < ((av.getD (p_2'.at1).toNat default).length : Int)))) && (decide ((((av.getD (p_2'.at1).toNat default).getD (0 : Int).toNat 0).toNat : Int) = 45))) rfl (fun hb => ?_) (fun hb => ?_)
      ·replace h := k9 h hb
       refine a6 ?_
       refine wm ?_
       obtain ⟨o_22', h⟩ := h
       refine WL.callS1 ajj rfl (ag4 pb mb wa av p_2' c_1'  o_22') rfl (LOk.inn hi1) trivial rfl rfl (fun r H' hS => ?_) (fun c H' hS => ?_)
       ·rcases hS with ⟨q_9', sl_9', hc, ho⟩ | ⟨at0_4', why_4', q_10', sl_10', hc, ho⟩ <;> cases ho
        replace h := h.1 q_9' sl_9' hc
        refine WL.nil ?_
        exact kh (hK_31' (plain_1', q_9', sl_9') h.1 h.2) [0, 1]
       ·rcases hS with ⟨q_9', sl_9', hc, ho⟩ | ⟨at0_4', why_4', q_10', sl_10', hc, ho⟩ <;> cases ho
        replace h := h.2 at0_4' why_4' q_10' sl_10' hc
        exact hE.pan [0, 1] rfl rfl (.inr ⟨_, _, _, h, rfl⟩)
      ·replace h := l6 h hb
       refine a6 ?_
       refine wm ?_
       obtain ⟨o_23', h⟩ := h
       refine WL.callS1 ai0 rfl (af5 pb mb wa av p_2' c_1'  o_23') rfl (LOk.inn hi1) trivial rfl rfl (fun r H' hS => ?_) (fun c H' hS => ?_)
       ·rcases hS with ⟨q_11', sl_11', hc, ho⟩ | ⟨at0_5', why_5', q_12', sl_12', hc, ho⟩ <;> cases ho
        replace h := h.1 q_11' sl_11' hc
        refine WL.nil ?_
        exact kh (hK_31' (plain_1', q_11', sl_11') h.1 h.2) [0, 1]
       ·rcases hS with ⟨q_11', sl_11', hc, ho⟩ | ⟨at0_5', why_5', q_12', sl_12', hc, ho⟩ <;> cases ho
        replace h := h.2 at0_5' why_5' q_12' sl_12' hc
        exact hE.pan [0, 1] rfl rfl (.inr ⟨_, _, _, h, rfl⟩)
    ·replace h := l6 h hb
     refine u7 ?_
     refine kg (hK_13' [(0, zP pb)] _ ?_)
     refine a7 (fun _ hK_41' => ?_)
     refine t8 10 [] m5 (by kernel_rfl) rfl (fun T_6' hT_6' => ?_)
     refine fv (fun _ => OV.move rfl) ?_
     refine fv (fun _ => OV.nilCheck rfl) ?_
     refine fv (fun _ => OV.fieldAddr0 rfl r4) ?_
     refine fv (fun _ => OV.load rfl (At.own 0 rfl) rfl d6) ?_
     refine fv (fun _ => OV.move rfl) ?_
     refine fv (fun _ => OV.nilCheck rfl) ?_
     refine fv (fun _ => OV.fieldAddr0 rfl q9) ?_
     refine fv (fun _ => OV.fieldAddr rfl u3) ?_
     refine fv (fun _ => OV.load rfl (At.own 0 rfl) rfl d3) ?_
     refine fv (fun _ => OV.len rfl d5) ?_
     refine FL.weak (L' := fun γ => [(0, zP pb), (118, zI p_2'.got), (124, zI (p_2'.sops.length : Int))]) (fun γ => ⟨rfl, rfl, rfl, trivial⟩) (FL.nil (hT_6' (fun γ => [(0, zP pb), (118, zI p_2'.got), (124, zI (p_2'.sops.length : Int))]) (fun γ => ?_)))
     refine wv (OV.lss rfl rfl) ?_
     refine WL.nil ?_
     refine kg (hK_41' [(0, zP pb), (125, zB (decide (p_2'.got < (p_2'.sops.length : Int))))] _ ?_)
     refine d4 (b := decide (p_2'.got < (p_2'.sops.length : Int))) rfl (fun hb => ?_) (fun hb => ?_)
     ·replace h := k9 h hb
      refine a6 ?_
      refine wm ?_
      refine wm ?_
      refine wv (OV.nilCheck rfl) ?_
      refine wv (OV.fieldAddr0 rfl m4) ?_
      refine wv (OV.load rfl (At.own 0 rfl) rfl p3) ?_
      refine wv (OV.lenIn hi1 rfl g9) ?_
      refine WL.callS r6 rfl (p4 (zP pb) (av.length : Int) ([109, 105, 115, 115, 105, 110, 103, 32, 111, 112, 101, 114, 97, 110, 100] : List UInt8)) rfl trivial rfl rfl (fun r H' hS => by cases hS) (fun c H' hS => ?_)
      cases hS
      exact hE.pan [0, 1] rfl rfl (.inr ⟨_, _, _, h, rfl⟩)
     ·replace h := l6 h hb
      refine b8 ?_
      exact hE.norm [0, 1] rfl rfl (.inl ⟨_, _, h, rfl⟩) (j6.none rfl)
   ·skip
    refine a7 (fun _ hK_42' => ?_)
    refine a6 ?_
    refine wm ?_
    refine wv (OV.nilCheck rfl) ?_
    refine wv (OV.fieldAddr0 rfl j0) ?_
    refine wv (OV.fieldAddr0 rfl w7) ?_
    refine wv (OV.load rfl (At.own 0 rfl) rfl d3) ?_
    refine WL.nil ?_
    refine kg (hK_42' [(0, zP pb), (48, st (({ { { q with sname := (b6 (av.getD ((0 : Int)).toNat default)).1, sops := (b6 (av.getD ((0 : Int)).toNat default)).2.1, sopts := (b6 (av.getD ((0 : Int)).toNat default)).2.2 } with name := (av.getD ((0 : Int)).toNat default) } with budget := 1024 }).name))] _ ?_)
    refine d7 ?_
    refine a7 (fun _ hK_43' => ?_)
    refine a6 ?_
    refine wv (OV.eqlS rfl rfl) ?_
    refine wA ?_
    refine WL.nil ?_
    refine kg (hK_43' [(0, zP pb), (48, st (({ { { q with sname := (b6 (av.getD ((0 : Int)).toNat default)).1, sops := (b6 (av.getD ((0 : Int)).toNat default)).2.1, sopts := (b6 (av.getD ((0 : Int)).toNat default)).2.2 } with name := (av.getD ((0 : Int)).toNat default) } with budget := 1024 }).name)), (49, zB (decide (({ { { q with sname := (b6 (av.getD ((0 : Int)).toNat default)).1, sops := (b6 (av.getD ((0 : Int)).toNat default)).2.1, sopts := (b6 (av.getD ((0 : Int)).toNat default)).2.2 } with name := (av.getD ((0 : Int)).toNat default) } with budget := 1024 }).name = ([119, 111, 114, 100, 115] : List UInt8))))] _ ?_)
    refine d4 (b := decide (({ { { q with sname := (b6 (av.getD ((0 : Int)).toNat default)).1, sops := (b6 (av.getD ((0 : Int)).toNat default)).2.1, sopts := (b6 (av.getD ((0 : Int)).toNat default)).2.2 } with name := (av.getD ((0 : Int)).toNat default) } with budget := 1024 }).name = ([119, 111, 114, 100, 115] : List UInt8))) rfl (fun hb => ?_) (fun hb => ?_)
    ·replace h := k9 h hb
     refine a6 ?_
     refine wm ?_
     refine wv (OV.nilCheck rfl) ?_
     refine wv (OV.fieldAddr0 rfl j0) ?_
     refine wv (OV.fieldAddr0 rfl aaa) ?_
     refine WL.store (vs := [zI 10]) (cs' := psC wa mb ({ { { { q with sname := (b6 (av.getD ((0 : Int)).toNat default)).1, sops := (b6 (av.getD ((0 : Int)).toNat default)).2.1, sopts := (b6 (av.getD ((0 : Int)).toNat default)).2.2 } with name := (av.getD ((0 : Int)).toNat default) } with budget := 1024 } with count := 10 })) 0 rfl rfl rfl rfl m6 (Nat.le_of_ble_eq_true rfl) rfl rfl rfl ?_
     refine WL.nil ?_
     exact kh (hK_11' ({ { { { q with sname := (b6 (av.getD ((0 : Int)).toNat default)).1, sops := (b6 (av.getD ((0 : Int)).toNat default)).2.1, sopts := (b6 (av.getD ((0 : Int)).toNat default)).2.2 } with name := (av.getD ((0 : Int)).toNat default) } with budget := 1024 } with count := 10 }) h) [0, 1]
    ·replace h := l6 h hb
     refine a7 (fun _ hK_44' => ?_)
     refine a6 ?_
     refine wv (OV.eqlS rfl rfl) ?_
     refine wA ?_
     refine WL.nil ?_
     refine kg (hK_44' [(0, zP pb), (55, zB (decide (({ { { q with sname := (b6 (av.getD ((0 : Int)).toNat default)).1, sops := (b6 (av.getD ((0 : Int)).toNat default)).2.1, sopts := (b6 (av.getD ((0 : Int)).toNat default)).2.2 } with name := (av.getD ((0 : Int)).toNat default) } with budget := 1024 }).name = ([115, 116, 114, 101, 97, 109] : List UInt8))))] _ ?_)
     refine d4 (b := decide (({ { { q with sname := (b6 (av.getD ((0 : Int)).toNat default)).1, sops := (b6 (av.getD ((0 : Int)).toNat default)).2.1, sopts := (b6 (av.getD ((0 : Int)).toNat default)).2.2 } with name := (av.getD ((0 : Int)).toNat default) } with budget := 1024 }).name = ([115, 116, 114, 101, 97, 109] : List UInt8))) rfl (fun hb => ?_) (fun hb => ?_)
     ·replace h := k9 h hb
      refine a6 ?_
      refine wm ?_
      refine wv (OV.nilCheck rfl) ?_
      refine wv (OV.fieldAddr0 rfl j0) ?_
      refine wv (OV.fieldAddr0 rfl aaf) ?_
      refine WL.store (vs := [zI 16]) (cs' := psC wa mb ({ { { { q with sname := (b6 (av.getD ((0 : Int)).toNat default)).1, sops := (b6 (av.getD ((0 : Int)).toNat default)).2.1, sopts := (b6 (av.getD ((0 : Int)).toNat default)).2.2 } with name := (av.getD ((0 : Int)).toNat default) } with budget := 1024 } with chunk := 16 })) 0 rfl rfl rfl rfl m6 (Nat.le_of_ble_eq_true rfl) rfl rfl rfl ?_
      refine WL.nil ?_
      exact kh (hK_11' ({ { { { q with sname := (b6 (av.getD ((0 : Int)).toNat default)).1, sops := (b6 (av.getD ((0 : Int)).toNat default)).2.1, sopts := (b6 (av.getD ((0 : Int)).toNat default)).2.2 } with name := (av.getD ((0 : Int)).toNat default) } with budget := 1024 } with chunk := 16 }) h) [0, 1]
     ·replace h := l6 h hb
      refine b8 ?_
      exact kh (hK_11' ({ { { q with sname := (b6 (av.getD ((0 : Int)).toNat default)).1, sops := (b6 (av.getD ((0 : Int)).toNat default)).2.1, sopts := (b6 (av.getD ((0 : Int)).toNat default)).2.2 } with name := (av.getD ((0 : Int)).toNat default) } with budget := 1024 }) h) [0, 1]
theorem alt {av : List Bs} {q q2 : PS} {sl sl2 : List Int} (h : aa5 av q sl = .ok (q2, sl2)) : q.at1 + 1 ≤ q2.at1 ∧ q2.at1 ≤ q.at1 + 2 ∧ q2.got = q.got ∧ q2.sops = q.sops ∧ sl2.length = sl.length + 1 ∧ (q.at1 < av.length → q2.at1 ≤ av.length) := by
 have hset : ∀ (l : Int) (v : Bs) (q : PS), (u1 l v q).2.got = q.got ∧ (u1 l v q).2.sops = q.sops ∧ (u1 l v q).2.at1 = q.at1 := fun l v q => by
  unfold u1
  (repeat' split) <;> exact ⟨rfl, rfl, rfl⟩
 unfold aa5 at h
 simp only at h
 split at h
 ·cases h
 split at h
 ·cases h
 split at h
 ·cases h
 split at h
 ·cases h
 ·rename_i v p hv
  split at h
  ·simp only [Except.ok.injEq, Prod.mk.injEq] at h
   obtain ⟨rfl, rfl⟩ := h
   obtain ⟨s1, s2, s3⟩ := hset ((((e9 av q.at1).getD 1 0).toNat : Nat) : Int) v p
   have hp : (q.at1 ≤ p.at1 ∧ p.at1 ≤ q.at1 + 1) ∧ p.got = q.got ∧ p.sops = q.sops ∧ (q.at1 < av.length → p.at1 < av.length) := by
    unfold adt at hv
    split at hv
    ·split at hv
     ·cases hv
     ·rename_i hne
      simp only [Except.ok.injEq, Prod.mk.injEq] at hv
      obtain ⟨_, rfl⟩ := hv
      refine ⟨⟨?_, ?_⟩, rfl, rfl, fun h => ?_⟩
      ·show q.at1 ≤ q.at1 + 1; omega
      ·show q.at1 + 1 ≤ q.at1 + 1; omega
      ·show q.at1 + 1 < (av.length : Int); omega
    ·simp only [Except.ok.injEq, Prod.mk.injEq] at hv
     obtain ⟨_, rfl⟩ := hv
     exact ⟨⟨by omega, by omega⟩, rfl, rfl, id⟩
   obtain ⟨hp1, hp2, hp3, hp4⟩ := hp
   refine ⟨?_, ?_, ?_, ?_, rfl, fun h => ?_⟩
   ·show q.at1 + 1 ≤ _ + 1; rw [s3]; omega
   ·show _ + 1 ≤ q.at1 + 2; rw [s3]; omega
   ·show _ = q.got; rw [← hp2]; exact s1
   ·show _ = q.sops; rw [← hp3]; exact s2
   ·have := hp4 h; show _ + 1 ≤ (av.length : Int); rw [s3]; omega
  ·cases h
theorem al5 {av : List Bs} {q q2 : PS} (h : ack av q = .ok q2) : q2.at1 = q.at1 + 1 ∧ q2.got = q.got + 1 ∧ q2.sops = q.sops ∧ q.got ≠ q.sops.length := by
 unfold ack at h
 split at h
 ·cases h
 ·rename_i hne
  simp only at h
  split at h
  ·cases h
  ·simp only [Except.ok.injEq] at h
   subst h
   exact ⟨rfl, rfl, (abj _ _ _).2.2, hne⟩
theorem agk (nm : Bs) : (b6 nm).2.1.length ≤ 100 := by
 unfold b6
 cases h : shapes.find? (fun s => decide (s.1 = nm)) with
 | none => show ([] : Bs).length ≤ 100; simp
 | some s =>
  have hm := List.mem_of_find?_eq_some h
  have : ∀ s ∈ shapes, s.2.1.length ≤ 100 := by decide
  exact this s hm
theorem akv (te : TypeId) (fre : Nat × Nat) (pb mb : Nat) (wa : Value) (av : List Bs) (q : PS) (sl : List Int) (h : anu av q sl) (R : List (Nat × Obj)) (hR : aaq wa R av.length (av.flatMap m9)) :
  i7 Tryd.prog 11 [.pointer (some ⟨pb, 0, none⟩)] (R ++ adn te fre) [.blk pb (.cells (psC wa mb q).toArray 51 (0, 0)), cnt Tryd.prog 5 3 mb sl]
   (fun o => (∃ q2 sl2, am5 av q sl q2 sl2 ∧ o = .ret (.tuple #[]) [.blk pb (.cells (psC wa mb q2).toArray 51 (0, 0)), cnt Tryd.prog 5 3 mb sl2]) ∨
    (∃ e why q2 sl2, alp av q sl e why ∧ o = .pan [{ v := v7 e why, recovered := false }] [.blk pb (.cells (psC wa mb q2).toArray 51 (0, 0)), cnt Tryd.prog 5 3 mb sl2])) := by
 obtain ⟨hA, hg, rfl⟩ := h
 refine (anh pb wa mb te fre q av [] R hR (fun q2 sl2 => am5 av q [] q2 sl2) (fun v _ _ => ∃ e why, alp av q [] e why ∧ v = v7 e why) ?_).weak ?_
 ·have hA1 := hA.1
  unfold ah4
  have hE : ∀ {e : Int} {why : Bs}, w8 av q = .error (e, why) → ∃ e' why', alp av q [] e' why' ∧ v7 e why = v7 e' why' := fun h => ⟨_, _, h, rfl⟩
  by_cases k1 : av.length = 0
  ·rw [if_pos (by rw [decide_eq_true_eq]; omega)]
   exact hE (by unfold w8; rw [if_pos k1])
  rw [if_neg (by rw [decide_eq_true_eq]; omega)]
  refine ⟨⟨by omega, by omega⟩, ?_⟩
  rw [show av.getD ((0 : Int)).toNat default = e9 av 0 from rfl]
  cases k2 : u6 (e9 av 0) with
  | false =>
   rw [if_pos (show (!false) = true from rfl)]
   exact hE (by unfold w8; rw [if_neg k1, if_pos k2])
  | true =>
  rw [if_neg (by simp)]
  have hu : w8 av q = goM av av.length false (q6 av q) [] := by unfold w8; rw [if_neg k1, if_neg (by rw [k2]; simp)]
  refine ⟨⟨by omega, by omega⟩, fun p => { p with at1 := 1 } = q6 av q, ?_, ?_⟩
  ·intro p hp
   rw [hp]
   have hst : (q6 av q).at1 = 1 ∧ (q6 av q).got = 0 ∧ (q6 av q).sops = (b6 (e9 av 0)).2.1 := by
    unfold q6
    simp only
    (repeat' split) <;> exact ⟨rfl, hg, rfl⟩
   refine ⟨fun plain p sl => 1 ≤ p.at1 ∧ p.at1 ≤ av.length ∧ 0 ≤ p.got ∧ p.got ≤ p.sops.length ∧ p.sops.length ≤ 100 ∧ (sl.length : Int) ≤ p.at1 ∧ ∃ f : Nat, (av.length : Int) - p.at1 ≤ f ∧ goM av f plain p sl = w8 av q, fun _ p _ => ((av.length : Int) - p.at1).toNat, ⟨by omega, by omega, by omega, by rw [hst.2.1]; omega, by rw [hst.2.2]; exact agk _, by rw [hst.1]; simp, av.length, by omega, hu.symm⟩, ?_⟩
   rintro plain p sl ⟨a1, a2, b1, b2, b3, c1, f, f1, f2⟩
   by_cases k3 : p.at1 < av.length
   ·rw [if_pos (by rw [decide_eq_true_eq]; exact k3)]
    refine ⟨⟨by omega, k3⟩, ?_⟩
    rw [show av.getD (p.at1).toNat default = e9 av p.at1 from rfl]
    obtain ⟨f, rfl⟩ : ∃ g, f = g + 1 := ⟨f - 1, by omega⟩
    rw [goM, if_pos k3] at f2
    by_cases k4 : (!plain) = true ∧ e9 av p.at1 = [45, 45]
    ·rw [if_pos (by rw [k4.1, k4.2]; rfl)]
     rw [if_pos k4] at f2
     refine ⟨by unfold I64; omega, ⟨by show 1 ≤ p.at1 + 1; omega, by show p.at1 + 1 ≤ (av.length : Int); omega, b1, b2, b3, by show (sl.length : Int) ≤ p.at1 + 1; omega, f, by show (av.length : Int) - (p.at1 + 1) ≤ f; omega, f2⟩, ?_⟩
     show ((av.length : Int) - (p.at1 + 1)).toNat < ((av.length : Int) - p.at1).toNat; omega
    ·rw [if_neg (by rw [Bool.and_eq_true, decide_eq_true_eq]; exact k4)]
     rw [if_neg k4] at f2
     refine ⟨fun h => ⟨by omega, by simp only [Bool.and_eq_true, decide_eq_true_eq] at h; omega⟩, ?_⟩
     have hgd : (e9 av p.at1).getD (0 : Int).toNat 0 = (e9 av p.at1).getD 0 0 := rfl
     rw [hgd]
     by_cases k5 : (!plain) = true ∧ 1 < (e9 av p.at1).length ∧ ((e9 av p.at1).getD 0 0).toNat = 45
     ·rw [if_pos (by simp only [Bool.and_eq_true, decide_eq_true_eq]; exact ⟨⟨k5.1, by omega⟩, by omega⟩)]
      rw [if_pos k5] at f2
      refine ⟨⟨hA, by omega, k3, by omega, by omega⟩, ?_, ?_⟩
      ·intro q2 sl2 ho
       have ho' : aa5 av p sl = .ok (q2, sl2) := ho
       obtain ⟨o1, o2, o3, o4, o5, o6⟩ := alt ho'
       rw [ho'] at f2
       refine ⟨⟨by omega, o6 k3, by omega, by rw [o3, o4]; exact b2, by rw [o4]; exact b3, by omega, f, by omega, f2⟩, ?_⟩
       show ((av.length : Int) - q2.at1).toNat < ((av.length : Int) - p.at1).toNat; omega
      ·intro e why q2 sl2 ho
       have ho' : aa5 av p sl = .error (e, why) := ho
       rw [ho'] at f2
       exact hE f2.symm
     ·rw [if_neg (by
       simp only [Bool.and_eq_true, decide_eq_true_eq, not_and]
       intro h1 h2; exact k5 ⟨h1.1, by omega, by omega⟩)]
      rw [if_neg k5] at f2
      refine ⟨⟨hA, by omega, k3, b1, b2, b3⟩, ?_, ?_⟩
      ·rintro q2 sl2 ⟨ho, rfl⟩
       obtain ⟨o1, o2, o3, o4⟩ := al5 ho
       rw [ho] at f2
       refine ⟨⟨by omega, by omega, by omega, by rw [o2, o3]; omega, by rw [o3]; exact b3, by omega, f, by omega, f2⟩, ?_⟩
       show ((av.length : Int) - q2.at1).toNat < ((av.length : Int) - p.at1).toNat; omega
      ·intro e why q2 sl2 ho
       have ho' : ack av p = .error (e, why) := ho
       rw [ho'] at f2
       exact hE f2.symm
   ·rw [if_neg (by rw [decide_eq_true_eq]; exact k3)]
    have f3 : (if p.got < p.sops.length then Except.error ((av.length : Int), acl) else .ok p) = w8 av q := by
     rw [← f2]
     cases f with
     | zero => rw [goM]
     | succ f => rw [goM, if_neg k3]
    by_cases k6 : p.got < p.sops.length
    ·rw [if_pos (by rw [decide_eq_true_eq]; exact k6)]
     rw [if_pos k6] at f3
     exact hE f3.symm
    ·rw [if_neg (by rw [decide_eq_true_eq]; exact k6)]
     rw [if_neg k6] at f3
     exact f3.symm
  ·unfold q6
   by_cases c1 : e9 av 0 = [119, 111, 114, 100, 115]
   ·rw [if_pos (by rw [decide_eq_true_eq]; exact c1)]
    simp only; rw [if_pos c1]
   ·rw [if_neg (by rw [decide_eq_true_eq]; exact c1)]
    by_cases c2 : e9 av 0 = [115, 116, 114, 101, 97, 109]
    ·rw [if_pos (by rw [decide_eq_true_eq]; exact c2)]
     simp only; rw [if_neg c1, if_pos c2]
    ·rw [if_neg (by rw [decide_eq_true_eq]; exact c2)]
     simp only; rw [if_neg c1, if_neg c2]
 ·rintro o (⟨q2, sl2, h, rfl⟩ | ⟨v, q2, sl2, ⟨e, why, h, rfl⟩, rfl⟩)
  ·exact .inl ⟨q2, sl2, h, rfl⟩
  ·exact .inr ⟨e, why, q2, sl2, h, rfl⟩
end Go.Proofs.YtgocbiiolmmonaaDoor
set_option maxRecDepth 100000
namespace Go.Proofs.YtgocbiiolmmonaaDoor
open Go Go.RowKit
theorem y7 : p8 Tryd.prog 24 11 = true := by kernel_rfl
theorem y3 : p8 Tryd.prog 27 3 = true := by kernel_rfl
theorem acf : ach Tryd.prog 24 = some [st [], st [], st [], st [], st [], zI 0, zI 0, zI 0, zI 0, zI 0, st []] := by kernel_rfl
theorem ab7 : ach Tryd.prog 27 = some [zI 0, zI 0, st []] := by kernel_rfl
theorem ajb : n9 Tryd.prog 11 = true := by kernel_rfl
theorem w2 : RowT Tryd.prog 24 11 := ⟨by kernel_rfl, by kernel_rfl⟩
theorem aap : RowT Tryd.prog 27 3 := ⟨by kernel_rfl, by kernel_rfl⟩
theorem afq : n9 Tryd.prog 10 = true := by kernel_rfl
def acc (c_0 : List UInt8) (c_1 : List UInt8) (c_2 : List UInt8) (c_3 : List UInt8) (c_4 : List UInt8) (c_5 : Int) (c_6 : Int) (c_7 : Int) (c_8 : Int) (c_9 : Int) (c_10 : List UInt8) (c_1'_0 : Int) (c_1'_1 : Int) (c_1'_2 : List UInt8) (K : (List UInt8) → (List UInt8) → (List UInt8) → (List UInt8) → (List UInt8) → Int → Int → Int → Int → Int → (List UInt8) → Int → Int → (List UInt8) → Prop) : Prop :=
 K c_0 c_1 c_2 c_3 c_4 c_5 c_6 c_7 c_8 c_9 c_10 c_1'_0 c_1'_1 c_1'_2
theorem ahw (b : Nat) (b_1' : Nat) (c_0 : List UInt8) (c_1 : List UInt8) (c_2 : List UInt8) (c_3 : List UInt8) (c_4 : List UInt8) (c_5 : Int) (c_6 : Int) (c_7 : Int) (c_8 : Int) (c_9 : Int) (c_10 : List UInt8) (c_1'_0 : Int) (c_1'_1 : Int) (c_1'_2 : List UInt8) (K : (List UInt8) → (List UInt8) → (List UInt8) → (List UInt8) → (List UInt8) → Int → Int → Int → Int → Int → (List UInt8) → Int → Int → (List UInt8) → Prop) (h : acc c_0 c_1 c_2 c_3 c_4 c_5 c_6 c_7 c_8 c_9 c_10 c_1'_0 c_1'_1 c_1'_2 K) :
  aco Tryd.prog 10 [zP b, zP b_1'] (.returning) (.returning) [] [HA.blk b (.cells [st c_0, st c_1, st c_2, st c_3, st c_4, zI c_5, zI c_6, zI c_7, zI c_8, zI c_9, st c_10].toArray 24 (0, 0)), HA.blk b_1' (.cells [zI c_1'_0, zI c_1'_1, st c_1'_2].toArray 27 (0, 0))] (fun o => (∃ (d_0 : List UInt8) (d_1 : List UInt8) (d_2 : List UInt8) (d_3 : List UInt8) (d_4 : List UInt8) (d_5 : Int) (d_6 : Int) (d_7 : Int) (d_8 : Int) (d_9 : Int) (d_10 : List UInt8) (d_1'_0 : Int) (d_1'_1 : Int) (d_1'_2 : List UInt8), K d_0 d_1 d_2 d_3 d_4 d_5 d_6 d_7 d_8 d_9 d_10 d_1'_0 d_1'_1 d_1'_2 ∧ o = .ret (Value.tuple #[]) [HA.blk b (.cells [st d_0, st d_1, st d_2, st d_3, st d_4, zI d_5, zI d_6, zI d_7, zI d_8, zI d_9, st d_10].toArray 24 (0, 0)), HA.blk b_1' (.cells [zI d_1'_0, zI d_1'_1, st d_1'_2].toArray 27 (0, 0))]) ∨ (False)) := by
 unfold acc at h
 refine afi (n := 9) (L0 := [(0, zP b), (1, zP b_1')]) (v := Value.nilIface) Tryd.func10 rfl rfl rfl rfl rfl rfl (.inl ⟨rfl, rfl, rfl⟩) (fun w0 M Q hE => ?_)
 refine a7 (fun _ hK => ?_)
 refine a6 ?_
 refine wm ?_
 refine wv (OV.neqNil0 rfl Tryd.underlying20) ?_
 refine WL.nil ?_
 refine kg (hK [(0, zP b), (1, zP b_1'), (2, Value.nilIface), (5, zB false)] _ ?_)
 refine j1 rfl ?_
 refine b8 ?_
 exact hE.norm [0, 1] rfl rfl (.inl ⟨_, _, _, _, _, _, _, _, _, _, _, _, _, _, h, rfl⟩) (j6.none rfl)
def ab8 (_ : List UInt8) (_ : List UInt8) (_ : List UInt8) (_ : List UInt8) (_ : List UInt8) (_ : Int) (_ : Int) (_ : Int) (_ : Int) (_ : Int) (_ : List UInt8) (_ : Int) (_ : Int) (_ : List UInt8) (fc : Int) (fa : Int) (ft : List UInt8) (K : (List UInt8) → (List UInt8) → (List UInt8) → (List UInt8) → (List UInt8) → Int → Int → Int → Int → Int → (List UInt8) → Int → Int → (List UInt8) → Prop) : Prop :=
 K [] [] [] [] [] 0 0 0 0 0 [] fc fa ft
theorem ah2 (b : Nat) (b_1' : Nat) (c_0 : List UInt8) (c_1 : List UInt8) (c_2 : List UInt8) (c_3 : List UInt8) (c_4 : List UInt8) (c_5 : Int) (c_6 : Int) (c_7 : Int) (c_8 : Int) (c_9 : Int) (c_10 : List UInt8) (c_1'_0 : Int) (c_1'_1 : Int) (c_1'_2 : List UInt8) (fc : Int) (fa : Int) (ft : List UInt8) (K : (List UInt8) → (List UInt8) → (List UInt8) → (List UInt8) → (List UInt8) → Int → Int → Int → Int → Int → (List UInt8) → Int → Int → (List UInt8) → Prop) (h : ab8 c_0 c_1 c_2 c_3 c_4 c_5 c_6 c_7 c_8 c_9 c_10 c_1'_0 c_1'_1 c_1'_2 fc fa ft K) :
  aco Tryd.prog 10 [zP b, zP b_1'] (.panicking [{ v := Value.iface 27 (Value.agg [zI fc, zI fa, st ft].toArray), recovered := false }]) (.panicking [{ v := Value.iface 27 (Value.agg [zI fc, zI fa, st ft].toArray), recovered := true }]) [] [HA.blk b (.cells [st c_0, st c_1, st c_2, st c_3, st c_4, zI c_5, zI c_6, zI c_7, zI c_8, zI c_9, st c_10].toArray 24 (0, 0)), HA.blk b_1' (.cells [zI c_1'_0, zI c_1'_1, st c_1'_2].toArray 27 (0, 0))] (fun o => (∃ (d_0 : List UInt8) (d_1 : List UInt8) (d_2 : List UInt8) (d_3 : List UInt8) (d_4 : List UInt8) (d_5 : Int) (d_6 : Int) (d_7 : Int) (d_8 : Int) (d_9 : Int) (d_10 : List UInt8) (d_1'_0 : Int) (d_1'_1 : Int) (d_1'_2 : List UInt8), K d_0 d_1 d_2 d_3 d_4 d_5 d_6 d_7 d_8 d_9 d_10 d_1'_0 d_1'_1 d_1'_2 ∧ o = .ret (Value.tuple #[]) [HA.blk b (.cells [st d_0, st d_1, st d_2, st d_3, st d_4, zI d_5, zI d_6, zI d_7, zI d_8, zI d_9, st d_10].toArray 24 (0, 0)), HA.blk b_1' (.cells [zI d_1'_0, zI d_1'_1, st d_1'_2].toArray 27 (0, 0))]) ∨ (False)) := by
 unfold ab8 at h
 refine afi (n := 9) (L0 := [(0, zP b), (1, zP b_1')]) (v := Value.iface 27 (Value.agg [zI fc, zI fa, st ft].toArray)) Tryd.func10 rfl rfl rfl rfl rfl rfl (.inr ⟨_, rfl, rfl, rfl⟩) (fun w0 M Q hE => ?_)
 refine a7 (fun _ hK => ?_)
 refine a6 ?_
 refine wm ?_
 refine wv (OV.neqNil rfl rfl Tryd.underlying20) ?_
 refine WL.nil ?_
 refine kg (hK [(0, zP b), (1, zP b_1'), (2, Value.iface 27 (Value.agg [zI fc, zI fa, st ft].toArray)), (5, zB true)] _ ?_)
 refine j2 rfl ?_
 refine akm 3 [] [] rfl rfl m5 (by kernel_rfl) (fun T hT => ?_)
 refine TW.val (OV.build rfl (cs := [st [], st [], st [], st [], st [], zI 0, zI 0, zI 0, zI 0, zI 0, st []]) rfl) rfl rfl rfl ?_
 refine TW.val (OV.move rfl) rfl rfl rfl ?_
 refine TW.val (OV.assertIs rfl Tryd.underlying27 rfl) rfl rfl rfl ?_
 refine TW.nil (hT _ ?_)
 refine WLK.op [] rfl rfl (OpK.storeW (vs := [st [], st [], st [], st [], st [], zI 0, zI 0, zI 0, zI 0, zI 0, st []]) 0 rfl rfl rfl rfl rfl y7 rfl rfl) rfl ?_
 refine WLK.op [] rfl rfl (OpK.storeW (vs := [zI fc, zI fa, st ft]) 1 rfl rfl rfl rfl rfl y3 rfl rfl) rfl ?_
 refine WLK.nil ?_
 exact hE.norm [0, 1] rfl rfl (.inl ⟨_, _, _, _, _, _, _, _, _, _, _, _, _, _, h, rfl⟩) (j6.none rfl)
abbrev adi (b b1 : Nat) (c0 : Bs) (c1 : Bs) (c2 : Bs) (c3 : Bs) (c4 : Bs) (c5 : Int) (c6 : Int) (c7 : Int) (c8 : Int) (c9 : Int) (c10 : Bs) (x y : Int) (z : Bs) : List HA :=
 [.blk b (.cells [st c0, st c1, st c2, st c3, st c4, zI c5, zI c6, zI c7, zI c8, zI c9, st c10].toArray 24 (0, 0)), .blk b1 (.cells [zI x, zI y, st z].toArray 27 (0, 0))]
theorem aih (b b1 : Nat) (c0 : Bs) (c1 : Bs) (c2 : Bs) (c3 : Bs) (c4 : Bs) (c5 : Int) (c6 : Int) (c7 : Int) (c8 : Int) (c9 : Int) (c10 : Bs) (x y : Int) (z : Bs) : aco Tryd.prog 10 [.pointer (some ⟨b, 0, none⟩), .pointer (some ⟨b1, 0, none⟩)] .returning .returning [] (adi b b1 c0 c1 c2 c3 c4 c5 c6 c7 c8 c9 c10 x y z) (Ret (.tuple #[]) (adi b b1 c0 c1 c2 c3 c4 c5 c6 c7 c8 c9 c10 x y z)) := by
 refine (ahw b b1 c0 c1 c2 c3 c4 c5 c6 c7 c8 c9 c10 x y z (fun c0' c1' c2' c3' c4' c5' c6' c7' c8' c9' c10' x' y' z' => c0' = c0 ∧ c1' = c1 ∧ c2' = c2 ∧ c3' = c3 ∧ c4' = c4 ∧ c5' = c5 ∧ c6' = c6 ∧ c7' = c7 ∧ c8' = c8 ∧ c9' = c9 ∧ c10' = c10 ∧ x' = x ∧ y' = y ∧ z' = z) ?_).weak ?_
 ·unfold acc; exact ⟨rfl, rfl, rfl, rfl, rfl, rfl, rfl, rfl, rfl, rfl, rfl, rfl, rfl, rfl⟩
 ·rintro o (⟨c0', c1', c2', c3', c4', c5', c6', c7', c8', c9', c10', x', y', z', ⟨rfl, rfl, rfl, rfl, rfl, rfl, rfl, rfl, rfl, rfl, rfl, rfl, rfl, rfl⟩, rfl⟩ | h)
  ·rfl
  ·exact h.elim
theorem ahr (b b1 : Nat) (c0 : Bs) (c1 : Bs) (c2 : Bs) (c3 : Bs) (c4 : Bs) (c5 : Int) (c6 : Int) (c7 : Int) (c8 : Int) (c9 : Int) (c10 : Bs) (x y : Int) (z : Bs) (fc fa : Int) (ft : Bs) : aco Tryd.prog 10 [.pointer (some ⟨b, 0, none⟩), .pointer (some ⟨b1, 0, none⟩)]
  (.panicking [{ v := .iface 27 (.agg [.int .i64 fc, .int .i64 fa, st ft].toArray), recovered := false }]) (.panicking [{ v := .iface 27 (.agg [.int .i64 fc, .int .i64 fa, st ft].toArray), recovered := true }]) [] (adi b b1 c0 c1 c2 c3 c4 c5 c6 c7 c8 c9 c10 x y z) (Ret (.tuple #[]) (adi b b1 [] [] [] [] [] 0 0 0 0 0 [] fc fa ft)) := by
 refine (ah2 b b1 c0 c1 c2 c3 c4 c5 c6 c7 c8 c9 c10 x y z fc fa ft (fun c0' c1' c2' c3' c4' c5' c6' c7' c8' c9' c10' x' y' z' => c0' = [] ∧ c1' = [] ∧ c2' = [] ∧ c3' = [] ∧ c4' = [] ∧ c5' = 0 ∧ c6' = 0 ∧ c7' = 0 ∧ c8' = 0 ∧ c9' = 0 ∧ c10' = [] ∧ x' = fc ∧ y' = fa ∧ z' = ft) ?_).weak ?_
 ·unfold ab8; exact ⟨rfl, rfl, rfl, rfl, rfl, rfl, rfl, rfl, rfl, rfl, rfl, rfl, rfl, rfl⟩
 ·rintro o (⟨c0', c1', c2', c3', c4', c5', c6', c7', c8', c9', c10', x', y', z', ⟨rfl, rfl, rfl, rfl, rfl, rfl, rfl, rfl, rfl, rfl, rfl, rfl, rfl, rfl⟩, rfl⟩ | h)
  ·rfl
  ·exact h.elim
abbrev CmT := Bs × Bs × Bs × Bs × Bs × Int × Int × Int × Int × Int × Bs
def cmT (q : PS) : CmT := (q.name, q.lens, q.view, q.src, q.out, q.budget, q.count, q.chunk, q.at0, q.del, q.text)
def ps0 : PS := ⟨[], [], [], [], [], 0, 0, 0, 0, 0, [], [], [], [], 0, 0⟩
def a8 (av : List Bs) : CmT := match w8 av ps0 with
 | .ok q => cmT q
 | .error _ => cmT ps0
def j9 (av : List Bs) : Int × Int × Bs := match w8 av ps0 with
 | .ok _ => (0, 0, [])
 | .error e => (140, e.1, e.2)
def adv (argv : List (List UInt8)) (K : (List UInt8) → (List UInt8) → (List UInt8) → (List UInt8) → (List UInt8) → Int → Int → Int → Int → Int → (List UInt8) → Int → Int → (List UInt8) → Prop) : Prop :=
 (anu argv ⟨([] : List UInt8), ([] : List UInt8), ([] : List UInt8), ([] : List UInt8), ([] : List UInt8), 0, 0, 0, 0, 0, ([] : List UInt8), ([] : List UInt8), ([] : List UInt8), ([] : List UInt8), 0, 0⟩ ([] : List Int)) ∧
 (∀ (q : PS) (sl : List Int), am5 argv ⟨([] : List UInt8), ([] : List UInt8), ([] : List UInt8), ([] : List UInt8), ([] : List UInt8), 0, 0, 0, 0, 0, ([] : List UInt8), ([] : List UInt8), ([] : List UInt8), ([] : List UInt8), 0, 0⟩ ([] : List Int)  q sl →
  K q.name q.lens q.view q.src q.out q.budget q.count q.chunk q.at0 q.del q.text 0 0 []) ∧
 (∀ (at0 : Int) (why : List UInt8) (_q_1' : PS) (_sl_1' : List Int), alp argv ⟨([] : List UInt8), ([] : List UInt8), ([] : List UInt8), ([] : List UInt8), ([] : List UInt8), 0, 0, 0, 0, 0, ([] : List UInt8), ([] : List UInt8), ([] : List UInt8), ([] : List UInt8), 0, 0⟩ ([] : List Int)  at0 why →
  K [] [] [] [] [] 0 0 0 0 0 [] 140 at0 why)
theorem akr (w : Value) (te : TypeId) (fre : Nat × Nat) (argv : List (List UInt8)) (Ri1 : List (Nat × Obj)) (hRi1 : aaq w Ri1 argv.length (argv.flatMap m9)) (K : (List UInt8) → (List UInt8) → (List UInt8) → (List UInt8) → (List UInt8) → Int → Int → Int → Int → Int → (List UInt8) → Int → Int → (List UInt8) → Prop) (h : adv argv K) :
  i7 Tryd.prog 4 [w] (Ri1 ++ [(4, .cells [st ([99, 104, 101, 99, 107] : List UInt8), st ([108] : List UInt8), st ([98] : List UInt8), st ([99, 111, 100, 101] : List UInt8), st ([108] : List UInt8), st ([98] : List UInt8), st ([119, 111, 114, 100, 115] : List UInt8), st ([108] : List UInt8), st ([98, 110] : List UInt8), st ([103, 101, 116] : List UInt8), st ([108, 115] : List UInt8), st ([98, 111] : List UInt8), st ([99, 97, 110, 111, 110] : List UInt8), st ([108, 115] : List UInt8), st ([98, 111] : List UInt8), st ([119, 104, 101, 114, 101] : List UInt8), st ([108, 115] : List UInt8), st ([98] : List UInt8), st ([115, 116, 114, 101, 97, 109] : List UInt8), st ([108, 115] : List UInt8), st ([98, 99] : List UInt8), st ([99, 114, 101, 97, 116, 101] : List UInt8), st ([108, 118] : List UInt8), st ([98, 111] : List UInt8), st ([112, 117, 116] : List UInt8), st ([108, 118, 115] : List UInt8), st ([98, 111] : List UInt8), st ([101, 100, 105, 116] : List UInt8), st ([108, 115, 97, 100, 116] : List UInt8), st ([98, 111] : List UInt8)].toArray te fre)]) [] (fun o => (∃ (v_0 : List UInt8) (v_1 : List UInt8) (v_2 : List UInt8) (v_3 : List UInt8) (v_4 : List UInt8) (v_5 : Int) (v_6 : Int) (v_7 : Int) (v_8 : Int) (v_9 : Int) (v_10 : List UInt8) (v_1'_0 : Int) (v_1'_1 : Int) (v_1'_2 : List UInt8), K v_0 v_1 v_2 v_3 v_4 v_5 v_6 v_7 v_8 v_9 v_10 v_1'_0 v_1'_1 v_1'_2 ∧ o = .ret (Value.tuple #[Value.agg [st v_0, st v_1, st v_2, st v_3, st v_4, zI v_5, zI v_6, zI v_7, zI v_8, zI v_9, st v_10].toArray, Value.agg [zI v_1'_0, zI v_1'_1, st v_1'_2].toArray]) []) ∨ (False)) := by
 unfold adv at h
 refine ag2 (n := 17) (L0 := [(0, w)]) Tryd.func4 rfl rfl rfl rfl (fun w0 M Q hE => ?_)
 have hi1 : LIn ⟨17, [], w0, M, (Ri1 ++ [(4, .cells [st ([99, 104, 101, 99, 107] : List UInt8), st ([108] : List UInt8), st ([98] : List UInt8), st ([99, 111, 100, 101] : List UInt8), st ([108] : List UInt8), st ([98] : List UInt8), st ([119, 111, 114, 100, 115] : List UInt8), st ([108] : List UInt8), st ([98, 110] : List UInt8), st ([103, 101, 116] : List UInt8), st ([108, 115] : List UInt8), st ([98, 111] : List UInt8), st ([99, 97, 110, 111, 110] : List UInt8), st ([108, 115] : List UInt8), st ([98, 111] : List UInt8), st ([119, 104, 101, 114, 101] : List UInt8), st ([108, 115] : List UInt8), st ([98] : List UInt8), st ([115, 116, 114, 101, 97, 109] : List UInt8), st ([108, 115] : List UInt8), st ([98, 99] : List UInt8), st ([99, 114, 101, 97, 116, 101] : List UInt8), st ([108, 118] : List UInt8), st ([98, 111] : List UInt8), st ([112, 117, 116] : List UInt8), st ([108, 118, 115] : List UInt8), st ([98, 111] : List UInt8), st ([101, 100, 105, 116] : List UInt8), st ([108, 115, 97, 100, 116] : List UInt8), st ([98, 111] : List UInt8)].toArray te fre)])⟩ w argv.length (argv.flatMap m9) := LIn.mk hRi1 (fun p hp => by simp [hp])
 refine a7 (fun _ hK => ?_)
 refine a6 ?_
 refine WL.make (MV.alloc acf) rfl rfl rfl (fun b => ?_)
 refine WL.make (MV.alloc ab7) rfl rfl rfl (fun b_1' => ?_)
 refine WL.nil ?_
 refine kg (hK [(0, w), (2, zP b), (3, zP b_1')] _ ?_)
 refine al9 (fun K0_1' hK_1' => ?_)
 refine a6 ?_
 refine wv (OV.makeFunc rfl) ?_
 refine WL.defer rfl rfl ?_
 refine WL.nil ?_
 refine kg (hK_1' _ [(0, w), (2, zP b), (3, zP b_1')] _ ?_)
 refine a7 (fun _ hK_2' => ?_)
 refine a6 ?_
 refine wm ?_
 refine WL.makeMap abp rfl rfl (fun b_2' => ?_)
 refine wv (OV.buildC (qs := [(2, [w]), (4, [Value.map (some b_2')])]) (cs := [st [], st [], st [], st [], st [], zI 0, zI 0, zI 0, zI 0, zI 0, st [], st [], st [], st [], w, zI 0, Value.map (some b_2'), zI 0]) rfl ⟨rfl, w5 hi1.one, ⟨rfl, rfl, trivial⟩⟩ rfl) ?_
 refine WL.make (MV.box (cs := [st [], st [], st [], st [], st [], zI 0, zI 0, zI 0, zI 0, zI 0, st [], st [], st [], st [], w, zI 0, Value.map (some b_2'), zI 0]) rfl rfl) rfl rfl rfl (fun b_3' => ?_)
 refine wA ?_
 refine WL.nil ?_
 refine kg (hK_2' [(2, zP b), (3, zP b_1'), (4, zP b_3')] _ ?_)
 refine a7 (fun _ hK_3' => ?_)
 refine a6 ?_
 refine wm ?_
 obtain ⟨o, h⟩ := h
 refine WL.callS1 ajb rfl (akv te fre b_3' b_2' w argv ⟨([] : List UInt8), ([] : List UInt8), ([] : List UInt8), ([] : List UInt8), ([] : List UInt8), 0, 0, 0, 0, 0, ([] : List UInt8), ([] : List UInt8), ([] : List UInt8), ([] : List UInt8), 0, 0⟩ ([] : List Int)  o) rfl (LOk.inn hi1) ⟨.inr (List.mem_append_right _ (List.mem_of_getElem? (i := 0) rfl)), trivial⟩ rfl rfl (fun r H' hS => ?_) (fun c H' hS => ?_)
 ·rcases hS with ⟨q, sl, hc, ho⟩ | ⟨at0, why, q_1', sl_1', hc, ho⟩ <;> cases ho
  replace h := h.1 q sl hc
  refine WL.nil ?_
  refine kg (hK_3' [(2, zP b), (3, zP b_1'), (4, zP b_3')] _ ?_)
  refine a7 (fun _ hK_4' => ?_)
  refine a6 ?_
  refine wm ?_
  refine wv (OV.nilCheck rfl) ?_
  refine wv (OV.fieldAddr0 rfl j0) ?_
  refine wv (OV.loadM (vs := [st q.name, st q.lens, st q.view, st q.src, st q.out, zI q.budget, zI q.count, zI q.chunk, zI q.at0, zI q.del, st q.text]) rfl (At.own 0 rfl) rfl w2) ?_
  refine wv (OV.build rfl (cs := [zI 0, zI 0, st []]) rfl) ?_
  refine WL.storeW (vs := [st q.name, st q.lens, st q.view, st q.src, st q.out, zI q.budget, zI q.count, zI q.chunk, zI q.at0, zI q.del, st q.text]) 3 rfl rfl rfl rfl rfl y7 rfl rfl rfl ?_
  refine WL.storeW (vs := [zI 0, zI 0, st []]) 2 rfl rfl rfl rfl rfl y3 rfl rfl rfl ?_
  refine WL.nil ?_
  refine kg (hK_4' [(2, zP b), (3, zP b_1')] _ ?_)
  refine e7 ?_
  exact hE.ret (aiv (A := [HA.blk b (.cells [st q.name, st q.lens, st q.view, st q.src, st q.out, zI q.budget, zI q.count, zI q.chunk, zI q.at0, zI q.del, st q.text].toArray 24 (0, 0)), HA.blk b_1' (.cells [zI 0, zI 0, st []].toArray 27 (0, 0))]) (A' := [HA.blk b (.cells [st q.name, st q.lens, st q.view, st q.src, st q.out, zI q.budget, zI q.count, zI q.chunk, zI q.at0, zI q.del, st q.text].toArray 24 (0, 0)), HA.blk b_1' (.cells [zI 0, zI 0, st []].toArray 27 (0, 0))]) (Rest := [HA.blk b_3' (.cells (psC w b_2' q).toArray 51 (0, 0)), cnt Tryd.prog 5 3 b_2' sl]) [3, 2, 0, 1] rfl rfl afq (aih b b_1' q.name q.lens q.view q.src q.out q.budget q.count q.chunk q.at0 q.del q.text 0 0 ([] : List UInt8)) (by intro hx; cases hx) rfl trivial [] rfl rfl (.inl ⟨_, _, _, _, _, _, _, _, _, _, _, _, _, _, h, rfl⟩) (j6.of2 rfl (RV.row rfl (At.own 0 rfl) w2) (RV.row rfl (At.own 1 rfl) aap)))
 ·rcases hS with ⟨q, sl, hc, ho⟩ | ⟨at0, why, q_1', sl_1', hc, ho⟩ <;> cases ho
  replace h := h.2 at0 why q_1' sl_1' hc
  exact hE.pan (aiv (A := [HA.blk b (.cells [st [], st [], st [], st [], st [], zI 0, zI 0, zI 0, zI 0, zI 0, st []].toArray 24 (0, 0)), HA.blk b_1' (.cells [zI 0, zI 0, st []].toArray 27 (0, 0))]) (A' := [HA.blk b (.cells [st [], st [], st [], st [], st [], zI 0, zI 0, zI 0, zI 0, zI 0, st []].toArray 24 (0, 0)), HA.blk b_1' (.cells [zI 140, zI at0, st why].toArray 27 (0, 0))]) (Rest := [HA.blk b_3' (.cells (psC w b_2' q_1').toArray 51 (0, 0)), cnt Tryd.prog 5 3 b_2' sl_1']) [3, 2, 0, 1] rfl rfl afq (ahr b b_1' ([] : List UInt8) ([] : List UInt8) ([] : List UInt8) ([] : List UInt8) ([] : List UInt8) 0 0 0 0 0 ([] : List UInt8) 0 0 ([] : List UInt8) 140 at0 why) (by intro hx; cases hx) rfl trivial [] rfl rfl (.inl ⟨_, _, _, _, _, _, _, _, _, _, _, _, _, _, h, rfl⟩) (j6.of2 rfl (RV.row rfl (At.own 0 rfl) w2) (RV.row rfl (At.own 1 rfl) aap)))
theorem acg (te : TypeId) (fre : Nat × Nat) (wa : Value) (av : List Bs) (h : AvB av) (R : List (Nat × Obj)) (hR : aaq wa R av.length (av.flatMap m9)) :
  i7 Tryd.prog 4 [wa] (R ++ adn te fre) [] (Ret (.tuple #[.agg [st (a8 av).1, st (a8 av).2.1, st (a8 av).2.2.1, st (a8 av).2.2.2.1, st (a8 av).2.2.2.2.1, zI (a8 av).2.2.2.2.2.1, zI (a8 av).2.2.2.2.2.2.1, zI (a8 av).2.2.2.2.2.2.2.1, zI (a8 av).2.2.2.2.2.2.2.2.1, zI (a8 av).2.2.2.2.2.2.2.2.2.1, st (a8 av).2.2.2.2.2.2.2.2.2.2].toArray, .agg [.int .i64 (j9 av).1, .int .i64 (j9 av).2.1, st (j9 av).2.2].toArray]) []) := by
 refine (akr wa te fre av R hR (fun c0 c1 c2 c3 c4 c5 c6 c7 c8 c9 c10 x y z => ((c0, c1, c2, c3, c4, c5, c6, c7, c8, c9, c10) : CmT) = a8 av ∧ (x, y, z) = j9 av) ?_).weak ?_
 ·unfold adv
  refine ⟨⟨h, rfl, rfl⟩, ?_, ?_⟩
  ·intro q sl hq
   have hq' : w8 av ps0 = .ok q := hq
   refine ⟨?_, ?_⟩
   ·unfold a8; rw [hq']; rfl
   ·unfold j9; rw [hq']
  ·intro e why q sl hq
   have hq' : w8 av ps0 = .error (e, why) := hq
   refine ⟨?_, ?_⟩
   ·unfold a8; rw [hq']; rfl
   ·unfold j9; rw [hq']
 ·rintro o (⟨c0, c1, c2, c3, c4, c5, c6, c7, c8, c9, c10, x, y, z, ⟨h1, h2⟩, rfl⟩ | h)
  ·rw [← h1, ← h2]; rfl
  ·exact h.elim
end Go.Proofs.YtgocbiiolmmonaaDoor
set_option maxRecDepth 100000
namespace Go.Proofs.YtgocbiiolmmonaaDoor
open Go Go.RowKit
def adc (n : Nat) : Bs := if n < 10 then [(48 + n).toUInt8] else adc (n / 10) ++ [(48 + n % 10).toUInt8]
termination_by n
decreasing_by omega
theorem ag7 : ∀ (k n : Nat), n < 10 ^ (k + 1) → (adc n).length ≤ k + 1
 | 0, n, h => by
  unfold adc
  rw [if_pos (by omega)]; simp
 | k + 1, n, h => by
  unfold adc
  split
  ·simp
  ·rw [List.length_append, List.length_singleton]
   have := ag7 k (n / 10) (by
    rw [Nat.div_lt_iff_lt_mul (by decide), ← Nat.pow_succ]; exact h)
   omega
theorem ak6 {m : Nat} (h : m < 10) : aax (48 + m).toUInt8 = true ∧ (48 + m).toUInt8.toNat - 48 = m := by
 have : (48 + m).toUInt8.toNat = 48 + m := by
  simp; omega
 unfold aax
 rw [this]
 simp; omega
theorem alw : ∀ n : Nat, (adc n).all aax = true ∧ agx 0 (adc n) = n ∧ adc n ≠ [] := by
 intro n
 induction n using Nat.strongRecOn with
 | _ n ih =>
  unfold adc
  split
  ·rename_i h
   obtain ⟨h1, h2⟩ := ak6 h
   refine ⟨by rw [List.all_cons, h1]; rfl, ?_, by simp⟩
   show 0 * 10 + ((48 + n).toUInt8.toNat - 48) = n
   omega
  ·rename_i h
   obtain ⟨i1, i2, i3⟩ := ih (n / 10) (by omega)
   obtain ⟨h1, h2⟩ := ak6 (m := n % 10) (by omega)
   refine ⟨by rw [List.all_append, i1, List.all_cons, h1]; rfl, ?_, by simp⟩
   unfold agx at i2 ⊢
   rw [List.foldl_append, i2]
   show n / 10 * 10 + ((48 + n % 10).toUInt8.toNat - 48) = n
   omega
section
variable {av : List Bs} {f : Nat} {lens view src out a v : Bs} {bud at1 got : Int} {sl : List Int} {plain : Bool}
theorem an3 {q : PS} (h : j5 v = true ∧ 1 ≤ g8 v ∧ g8 v ≤ 4096) : u1 98 v q = (true, { q with budget := g8 v }) := by
 unfold u1
 rw [if_neg (by decide), if_neg (by decide), if_neg (by decide), h.1]
 simp [h.2.1, h.2.2]
theorem an4 {q : PS} (h : v ≠ []) : u1 111 v q = (true, { q with out := v }) := by
 unfold u1
 rw [if_pos rfl]
 simp [h]
theorem ane {q q2 : PS} {sl2 : List Int} (h1 : q.at1 < av.length) (hne : e9 av q.at1 ≠ [45, 45]) (hl : 1 < (e9 av q.at1).length) (hd : ((e9 av q.at1).getD 0 0).toNat = 45) (ho : aa5 av q sl = .ok (q2, sl2)) : goM av (f + 1) false q sl = goM av f false q2 sl2 := by
 rw [goM, if_pos h1, if_neg (fun h => hne h.2), if_pos ⟨rfl, hl, hd⟩, ho]
def NoD (a : Bs) : Prop := ¬ (0 < a.length ∧ (a.getD 0 0).toNat = 45)
theorem anb {q q2 : PS} (h1 : q.at1 < av.length) (hp : plain = true ∨ NoD (e9 av q.at1)) (ho : ack av q = .ok q2) : goM av (f + 1) plain q sl = goM av f plain q2 sl := by
 rw [goM, if_pos h1, if_neg, if_neg, ho]
 ·rintro ⟨h2, h3, h4⟩
  rcases hp with hp | hp
  ·rw [hp] at h2; cases h2
  ·exact hp ⟨by omega, h4⟩
 ·rintro ⟨h2, h3⟩
  rcases hp with hp | hp
  ·rw [hp] at h2; cases h2
  ·exact hp (by rw [h3]; decide)
end
end Go.Proofs.YtgocbiiolmmonaaDoor
namespace Go.Proofs.YtgocbiiolmmonaaDoor
open Go Go.RowKit
variable {P : Program} {ops : Array Oper} {Q : Exit → Act → World → Prop} {C : Cx} {L : Sl} {H : List HA} {rest : List Oper} {o : Oper} {w : World}
section
variable {x y : Operand} {t e' ty T : TypeId} {d : Option Tmp} {p : String} {e : Array Edge} {g : Option (Nat × Bool)} {v : Value} {kk : IntKind} {sz n k : Nat} {xs : List Value}
end
section ap
variable {s x y z : Operand} {t e' ty T : TypeId} {p : String} {e : Array Edge} {v u : Value} {k k' : IntKind} {sz bytes : Nat} {zs cs : List Value} {α : Type} {f : α → List Value} {l ms : List α} {d : Nat}
theorem ag0 (t ty e : TypeId) (i : TypeInfo) (ht : P.underlying t = some (.slice e)) (hi : P.info? e = some i) (v : Value) (n c : Nat) (xs : List Value) (hown : w.ownsRow 0 e sz v n xs) :
  (Builtin.append_ #[t, t] ty #[v, .slice none 0 c]).run P w = .ok v w := by
 rcases hown.2 with ⟨rfl, rfl⟩ | ⟨g, cap, cur, rfl, _, _, hnc, _⟩
 ·simp [Builtin.append_, run_underlying ht, sizeOf, typeInfo, hi, Builtin.lenOf, Builtin.firstCells]
 ·simp [Builtin.append_, run_underlying ht, sizeOf, typeInfo, hi, Builtin.lenOf, Builtin.firstCells, hnc, storeCells]
theorem WL.appendIn (i : Nat) (hs : ev L s = some v) (hx : ev L x = some u) (hl : LIn C u ms.length (ms.flatMap f)) (hi : H[i]? = some (.row v e' sz l.length (l.flatMap f)))
  (hf' : ∀ x, (f x).length = sz) (h0 : 0 < sz) (h1 : ∀ x, (f x).all (·.oneCell') = true) (ht : slB P t e' sz = true) (hinf : agr P e' = some (zs, sz, bytes)) (hzs : zs.length = sz) (hb : ((l.length + ms.length) + (l.length + ms.length) / 4 + 192) * bytes ≤ 281474976710656 ∧ l.length + ms.length ≤ 9223372036854775807)
  (hw : j4 ops L ⟨some d, .call ⟨.builtin .append, #[s, x], #[t, t]⟩, ty, p, e, none⟩ = some true) (hn : Nat.blt d C.n = true)
  (h : ∀ v', WL P ops Q C ((d, v') :: L) (H.set i (.row v' e' sz (l ++ ms).length ((l ++ ms).flatMap f))) rest) : WL P ops Q C L H (⟨some d, .call ⟨.builtin .append, #[s, x], #[t, t]⟩, ty, p, e, none⟩ :: rest) := by
 intro a w hf hp
 obtain ⟨inf, z, q1, q2, q3, q4, q5⟩ := aen hinf
 obtain ⟨R, hin, hR⟩ := hl
 have hlen : (ms.flatMap f).length = ms.length * sz := v8 hf' ms
 have hone : ∀ u ∈ ms.flatMap f, u.oneCell' = true := fun u hu => by
  obtain ⟨x, _, hx⟩ := List.mem_flatMap.1 hu
  exact List.all_eq_true.1 (h1 x) u hx
 have key : ∀ (a0 : Addr) (c : Nat), u = .slice (some a0) ms.length c → (∀ q u, (ms.flatMap f)[q]? = some u → w.cell? (a0.add q) = some u) → wpList P ops Q (⟨some d, .call ⟨.builtin .append, #[s, x], #[t, t]⟩, ty, p, e, none⟩ :: rest) a w := fun a0 c hu hnews => by
  subst hu
  obtain ⟨v', w', hr, r1, r2, _⟩ := run_append_own_wide (P := P) w 0 t ty e' inf z sz bytes (u2 ht).1 q1 q2 q4 q5 (by rw [q3]; simpa using hzs) h0 v l.length (l.flatMap f) (hp.row hi) a0 ms.length c _ hlen hnews hone (by simp only [maxLen]; omega) hb.1 (Nat.zero_le _)
  refine j7 (d9 hf hw) ?_
  unfold Oper.wp execOp
  simp only [resolve, invoke, builtin, Sem.run_bind, Sem.run_pure, Result.andThen_ok, List.map_toArray, List.map_cons, List.map_nil, hf.ev hs, hf.ev hx, hr]
  refine h v' _ w' (hf.put hn v') (hp.swap hi r2.os r2.tape r2.output r2.size (fun F hF k hk hkF => r2.block k hk (fun e => hkF (by rw [hF.1, ← e]; simp))) (fun F hF _ => ⟨v'.ownBlock.toList, ⟨rfl, by rw [List.length_append, List.flatMap_append]; exact r1⟩, by cases v'.ownBlock <;> simp, fun k hk => ?_⟩))
  have hk' : v'.ownBlock = some k := by simpa using hk
  refine ⟨?_, (r1.lt k hk').2⟩
  rcases ae8 (u2 ht).1 q1 q2 q4 q5 (hp.row hi) hlen hnews hone hb.2 hb.1 hr hk' with h4 | h4
  ·exact .inl (by rw [hF.1, h4]; simp)
  ·exact .inr h4
 rcases hin with ⟨hm, hxs, ⟨a0, c, rfl⟩, _⟩ | ⟨b, off, cap, cs, T, fr, rfl, rfl, hc⟩
 ·cases a0 with
  | some a0 => exact key a0 c (by rw [hm]) (fun q u hq => by rw [hxs] at hq; simp at hq)
  | none =>
   have hms : ms = [] := List.eq_nil_of_length_eq_zero hm
   subst hms
   refine j7 (d9 hf hw) ?_
   unfold Oper.wp execOp
   simp only [resolve, invoke, builtin, Sem.run_bind, Sem.run_pure, Result.andThen_ok, List.map_toArray, List.map_cons, List.map_nil, hf.ev hs, hf.ev hx, ag0 (P := P) t ty e' inf (u2 ht).1 q1 v l.length c _ (hp.row hi)]
   refine h v _ w (hf.put hn v) ?_
   have hq : H.set i (.row v e' sz (l ++ []).length ((l ++ []).flatMap f)) = H := by
    obtain ⟨hlt, he⟩ := List.getElem?_eq_some_iff.1 hi
    rw [List.append_nil, ← he, List.set_getElem_self]
   rw [hq]; exact hp
 ·refine key _ cap rfl (fun q u hq => ?_)
  have hmem : w.heap[b]? = some (.cells cs.toArray T fr) := (At.old (H := H) (hR _ (List.mem_singleton.2 rfl))) w hp
  have hlt : q < (ms.flatMap f).length := (List.getElem?_eq_some_iff.1 hq).1
  rw [← hc, List.getElem?_take, if_pos hlt, List.getElem?_drop] at hq
  rw [Addr.add_mid]
  simp only [World.cell?, hmem]
  simpa using hq
end ap
section b0
variable {P : Program} {C : Cx} {L : Sl} {H : List HA}
theorem MV.buildSlice0 {t e' ty : TypeId} {d : Option Tmp} {p : String} {e : Array Edge} {g : Option (Nat × Bool)} {sz : Nat} (hs : slB P t e' sz = true) :
  MV P C L H ⟨d, .buildSlice t 0 #[], ty, p, e, g⟩ (.cells ([] : List Value).toArray e' (0, 0)) (fun b => .slice (some ⟨b, 0, none⟩) 0 0) := fun a w hf _ => by
 have hu := (u2 hs).1
 have hsr : (sizeOf e').run P w = .ok sz w := by
  have h2 := (u2 hs).2
  unfold p8 at h2
  cases hi : P.info? e' with
  | none => rw [hi] at h2; simp at h2
  | some ie => rw [hi] at h2; simp at h2; simp [sizeOf, typeInfo, hi, h2]
 simp only [execOp, Instr.buildSlice, Sem.run_bind, n5 hu, Result.andThen_ok, hsr, Nat.zero_mul]
 rw [if_neg (by decide), if_pos trivial]
 have hf : Instr.fill (fun i => some (i * sz, sz)) (((Array.range 0)).map (fun x => (#[] : Array Value)[x % (#[] : Array Value).size]!)) ((#[] : Array (Nat × Operand)).map fun x => (x.1, a.eval x.2)).toList = some #[] := by simp [Instr.fill]
 simp only [Sem.run_bind, Sem.run_pure, Result.andThen_ok, hf, newRow, newObj]
 rfl
end b0
end Go.Proofs.YtgocbiiolmmonaaDoor
set_option maxRecDepth 100000
namespace Go.Proofs.YtgocbiiolmmonaaDoor
open Go Go.RowKit
abbrev ae3 : Bs := [76, 101, 110, 115]
abbrev akp : Bs := [86, 105, 101, 119]
abbrev ade : Bs := [83, 111, 117, 114, 99, 101]
abbrev fAt : Bs := [65, 116]
abbrev anw : Bs := [68, 101, 108]
abbrev aml : Bs := [84, 101, 120, 116]
def aly (nm : Bs) : List Bs :=
 if nm = [99, 104, 101, 99, 107] ∨ nm = [99, 111, 100, 101] ∨ nm = [119, 111, 114, 100, 115] then [ae3] else if nm = [103, 101, 116] ∨ nm = [99, 97, 110, 111, 110] ∨ nm = [119, 104, 101, 114, 101] ∨ nm = [115, 116, 114, 101, 97, 109] then [ae3, ade] else if nm = [99, 114, 101, 97, 116, 101] then [ae3, akp] else if nm = [112, 117, 116] then [ae3, akp, ade] else if nm = [101, 100, 105, 116] then [ae3, ade, fAt, anw, aml] else []
abbrev cmL (c : CmT) : List Value := [st c.1, st c.2.1, st c.2.2.1, st c.2.2.2.1, st c.2.2.2.2.1, .int .i64 c.2.2.2.2.2.1, .int .i64 c.2.2.2.2.2.2.1, .int .i64 c.2.2.2.2.2.2.2.1, .int .i64 c.2.2.2.2.2.2.2.2.1, .int .i64 c.2.2.2.2.2.2.2.2.2.1, st c.2.2.2.2.2.2.2.2.2.2]
def mkP (nm : Bs) (c : CmT) (i : Int) (k : Nat) : PS := ⟨c.1, c.2.1, c.2.2.1, c.2.2.2.1, c.2.2.2.2.1, c.2.2.2.2.2.1, c.2.2.2.2.2.2.1, c.2.2.2.2.2.2.2.1, c.2.2.2.2.2.2.2.2.1, c.2.2.2.2.2.2.2.2.2.1, c.2.2.2.2.2.2.2.2.2.2, (b6 nm).1, (b6 nm).2.1, (b6 nm).2.2, i, (k : Int)⟩
def amj (l : UInt8) : Bs := if l = 108 then ae3 else if l = 118 then akp else if l = 115 then ade else if l = 97 then fAt else if l = 100 then anw else if l = 116 then aml else []
theorem agb {nm : Bs} (h : u6 nm = true) : b6 nm ∈ shapes ∧ (b6 nm).1 = nm := by
 unfold u6 at h
 obtain ⟨s, hs⟩ := Option.isSome_iff_exists.1 h
 have e : b6 nm = s := by unfold b6; rw [hs]; rfl
 rw [e]
 exact ⟨List.mem_of_find?_eq_some hs, by simpa using List.find?_some hs⟩
theorem ame {nm : Bs} (h : u6 nm = true) : aly nm = (b6 nm).2.1.map amj ∧ (∀ l ∈ (b6 nm).2.1, l ∈ ([108, 118, 115, 97, 100, 116] : Bs)) ∧ aly nm ≠ [] := by
 obtain ⟨h1, h2⟩ := agb h
 have := (by decide : ∀ s ∈ shapes, aly s.1 = s.2.1.map amj ∧ (∀ l ∈ s.2.1, l ∈ ([108, 118, 115, 97, 100, 116] : Bs)) ∧ aly s.1 ≠ []) _ h1
 rw [h2] at this
 exact this
section
variable {av : List Bs} {f : Nat} {plain : Bool} {q : PS} {sl : List Int}
theorem aiy (h1 : q.at1 < av.length) (hp : plain = false) (ha : e9 av q.at1 = [45, 45]) : goM av (f + 1) plain q sl = goM av f true { q with at1 := q.at1 + 1 } sl := by
 subst hp
 rw [goM, if_pos h1, if_pos ⟨rfl, ha⟩]
theorem amw (h1 : q.at1 < av.length) (hm : ¬ (plain = false ∧ e9 av q.at1 = [45, 45])) (ho : plain = false ∧ 1 < (e9 av q.at1).length ∧ ((e9 av q.at1).getD 0 0).toNat = 45) :
  goM av (f + 1) plain q sl = match aa5 av q sl with
   | .error e => .error e
   | .ok (q2, sl2) => goM av f plain q2 sl2 := by
 rw [goM, if_pos h1, if_neg (fun h => hm ⟨by simpa using h.1, h.2⟩), if_pos ⟨by simpa using ho.1, ho.2⟩]
 all_goals rfl
theorem anc (h1 : q.at1 < av.length) (hm : ¬ (plain = false ∧ e9 av q.at1 = [45, 45])) (ho : ¬ (plain = false ∧ 1 < (e9 av q.at1).length ∧ ((e9 av q.at1).getD 0 0).toNat = 45)) :
  goM av (f + 1) plain q sl = match ack av q with
   | .error e => .error e
   | .ok q2 => goM av f plain q2 sl := by
 rw [goM, if_pos h1, if_neg (fun h => hm ⟨by simpa using h.1, h.2⟩), if_neg (fun h => ho ⟨by simpa using h.1, h.2⟩)]
 all_goals rfl
theorem ake (h1 : ¬ q.at1 < av.length) : goM av f plain q sl = if q.got < q.sops.length then .error (av.length, acl) else .ok q := by
 cases f with
 | zero => rw [goM]
 | succ f => rw [goM, if_neg h1]
end
def agd (av : List Bs) : Bool := match w8 av ps0 with
 | .ok _ => false
 | .error _ => true
theorem ag6 (av : List Bs) : q6 av ps0 = mkP (e9 av 0) (e9 av 0, [], [], [], [], 1024, (q6 av ps0).count, (q6 av ps0).chunk, 0, 0, []) 1 0 := by
 unfold q6
 dsimp only
 split
 ·rfl
 ·split <;> rfl
theorem ac7 (av : List Bs) : (q6 av ps0).count = if e9 av 0 = [119, 111, 114, 100, 115] then 10 else 0 := by
 unfold q6
 dsimp only
 split
 ·rfl
 ·split <;> rfl
theorem ac6 (av : List Bs) : (q6 av ps0).chunk = if e9 av 0 = [115, 116, 114, 101, 97, 109] then 16 else 0 := by
 unfold q6
 dsimp only
 split
 ·rename_i h
  rw [if_neg (by rw [h]; decide)]; rfl
 ·split <;> rfl
theorem air {x : UInt8} : x ∈ ([98, 110, 99, 111] : Bs) ↔ ¬ ixB [98, 110, 99, 111] ((x.toNat : Nat) : Int) < 0 := by
 have h := (by decide : ∀ n, n < 256 → ((UInt8.ofNat n) ∈ ([98, 110, 99, 111] : Bs) ↔ ¬ ixB [98, 110, 99, 111] (((UInt8.ofNat n).toNat : Nat) : Int) < 0)) x.toNat x.toNat_lt
 rwa [UInt8.ofNat_toNat] at h
theorem akz {av : List Bs} {q : PS} {sl : List Int} {x : UInt8} (hx : (e9 av q.at1).getD 1 0 = x) (h : x ∉ ([98, 110, 99, 111] : Bs)) : aa5 av q sl = .error (q.at1, aee) := by
 unfold aa5
 simp only [hx]
 rw [if_pos]
 exact Decidable.of_not_not (fun hn => h (air.2 hn))
theorem akk {av : List Bs} {q : PS} {sl : List Int} {x : UInt8} (hx : (e9 av q.at1).getD 1 0 = x) (h : x ∈ ([98, 110, 99, 111] : Bs)) :
  aa5 av q sl = if ixB q.sopts ((x.toNat : Nat) : Int) < 0 then .error (q.at1, ah9)
   else if 0 < sl.count ((x.toNat : Nat) : Int) then .error (q.at1, ah7)
   else match adt av q with
    | .error e => .error e
    | .ok (v, p) => if (u1 ((x.toNat : Nat) : Int) v p).1 = true then .ok ({ (u1 ((x.toNat : Nat) : Int) v p).2 with at1 := (u1 ((x.toNat : Nat) : Int) v p).2.at1 + 1 }, ((x.toNat : Nat) : Int) :: sl) else .error ((u1 ((x.toNat : Nat) : Int) v p).2.at1, aj2) := by
 unfold aa5
 simp only [hx]
 rw [if_neg (air.1 h)]
 all_goals rfl
theorem aj5 {av : List Bs} (h : agd av = true) : a8 av = ([], [], [], [], [], 0, 0, 0, 0, 0, []) ∧ (j9 av).1 = 140 := by
 unfold agd at h
 unfold a8 j9
 cases hq : w8 av ps0 with
 | ok q => rw [hq] at h; cases h
 | error e => exact ⟨rfl, rfl⟩
theorem ajv {av : List Bs} (h : ¬ agd av = true) : j9 av = (0, 0, []) := by
 unfold agd at h
 unfold j9
 cases hq : w8 av ps0 with
 | ok q => rfl
 | error e => rw [hq] at h; exact absurd rfl h
end Go.Proofs.YtgocbiiolmmonaaDoor
namespace Go.Proofs.YtgocbiiolmmonaaDoor
open Go Go.RowKit
variable {P : Program} {ops : Array Oper} {Q : Exit → Act → World → Prop} {C : Cx} {L : Sl} {H : List HA} {rest : List Oper} {w : World}
theorem MV.rangeS {t ty : TypeId} {d : Option Tmp} {p : String} {e : Array Edge} {g : Option (Nat × Bool)} {x : Operand} {l : List UInt8} (hx : ev L x = some (st l)) (ht : agf P t = true) :
  MV P C L H ⟨d, .range t x, ty, p, e, g⟩ (.stringIter ⟨l.toArray⟩ (0 : Int).toNat) (fun b => .pointer (some ⟨b, 0, none⟩)) := fun a w hf _ => by
 simp only [execOp, hf.ev hx, Sem.run_bind, run_range_string w t _ (x7 ht), Result.andThen_ok, Sem.run_pure]
 rfl
theorem acu (l : List UInt8) : (⟨l.toArray⟩ : ByteArray).size = l.length := by simp [ByteArray.size]
theorem ahd {l : List UInt8} {k : Nat} (h : k < (⟨l.toArray⟩ : ByteArray).size) : (⟨l.toArray⟩ : ByteArray)[k]'h = l.getD k 0 := by
 have hk : k < l.length := by rw [acu] at h; exact h
 rw [List.getD_eq_getElem?_getD, List.getElem?_eq_getElem hk]
 show (⟨l.toArray⟩ : ByteArray).data[k] = _
 simp
theorem ahj {b k : Nat} {s : ByteArray} (ty : TypeId) (hb : w.heap[b]? = some (.stringIter s k)) (h : k < s.size) (ha : (s[k]'h).toNat < 128) :
  (Instr.next (.pointer (some ⟨b, 0, none⟩)) true ty).run P w = .ok (.tuple #[.bool true, .int .i64 k, .int .i32 (s[k]'h).toNat]) { w with heap := w.heap.setIfInBounds b (.stringIter s (k + 1)) } := by
 simp only [Instr.next, getObj, setObj, Sem.run_bind, Sem.run, hb, Result.andThen, h, if_true, decode_ascii s k h ha]
 simp [goInt]
theorem ada {b k : Nat} {s : ByteArray} (ty : TypeId) (hb : w.heap[b]? = some (.stringIter s k)) (h : ¬ k < s.size) :
  (Instr.next (.pointer (some ⟨b, 0, none⟩)) true ty).run P w = .ok (.tuple #[.bool false]) w := by
 simp [Instr.next, getObj, Sem.run, hb, h]
theorem WL.nextT {d : Nat} {ty : TypeId} {p : String} {e : Array Edge} {g : Option (Nat × Bool)} {x : Operand} {b : Nat} {l : List UInt8} {k : Int} (i : Nat) (hx : ev L x = some (.pointer (some ⟨b, 0, none⟩))) (hi : H[i]? = some (.blk b (.stringIter ⟨l.toArray⟩ k.toNat)))
  (ha : 0 ≤ k ∧ ∀ c ∈ l, c.toNat < 128) (hk : decide (k < (l.length : Int)) = true) (hw : j4 ops L ⟨some d, .next x true, ty, p, e, g⟩ = some true) (hn : Nat.blt d C.n = true)
  (h : WL P ops Q C ((d, .tuple #[.bool true, .int .i64 k, .int .i32 ((l.getD k.toNat 0).toNat : Int)]) :: L) (H.set i (.blk b (.stringIter ⟨l.toArray⟩ (k + 1).toNat))) rest) : WL P ops Q C L H (⟨some d, .next x true, ty, p, e, g⟩ :: rest) := by
 intro a w hf hp
 refine j7 (d9 hf hw) ?_
 have hb := hp.blk hi
 have hkl : k < (l.length : Int) := of_decide_eq_true hk
 have hlt : k.toNat < (⟨l.toArray⟩ : ByteArray).size := by rw [acu]; omega
 have hc : (l.getD k.toNat 0) ∈ l := by
  rw [List.getD_eq_getElem?_getD, List.getElem?_eq_getElem (by omega)]; exact List.getElem_mem _
 have hrun := ahj (P := P) (w := w) ty hb hlt (by rw [ahd hlt]; exact ha.2 _ hc)
 rw [ahd hlt] at hrun
 unfold Oper.wp
 simp only [execOp, hf.ev hx, Sem.run_bind, hrun, Result.andThen_ok, Sem.run_pure, Oper.upon]
 have hs := hp.set (o' := .stringIter ⟨l.toArray⟩ (k.toNat + 1)) (w' := { w with heap := w.heap.setIfInBounds b (.stringIter ⟨l.toArray⟩ (k.toNat + 1)) }) hi rfl rfl rfl (by simp)
  (fun q hq => (MapKept.heap_set hb).2 q hq) (MapKept.heap_set hb).1
 rw [show k.toNat + 1 = (k + 1).toNat by omega] at hs ⊢
 have e1 : ((k.toNat : Nat) : Int) = k := by omega
 rw [e1]
 exact h _ _ (hf.put hn _) hs
theorem WL.nextF {d : Nat} {ty : TypeId} {p : String} {e : Array Edge} {g : Option (Nat × Bool)} {x : Operand} {b : Nat} {l : List UInt8} {k : Int} (i : Nat) (hx : ev L x = some (.pointer (some ⟨b, 0, none⟩))) (hi : H[i]? = some (.blk b (.stringIter ⟨l.toArray⟩ k.toNat)))
  (h0 : 0 ≤ k ∧ ∀ c ∈ l, c.toNat < 128) (hk : decide (k < (l.length : Int)) = false) (hw : j4 ops L ⟨some d, .next x true, ty, p, e, g⟩ = some true) (hn : Nat.blt d C.n = true)
  (h : WL P ops Q C ((d, .tuple #[.bool false]) :: L) H rest) : WL P ops Q C L H (⟨some d, .next x true, ty, p, e, g⟩ :: rest) := by
 intro a w hf hp
 refine j7 (d9 hf hw) ?_
 have hb := hp.blk hi
 have hkl : ¬ k < (l.length : Int) := of_decide_eq_false hk
 have hrun := ada (P := P) (w := w) ty hb (by rw [acu]; omega)
 unfold Oper.wp
 simp only [execOp, hf.ev hx, Sem.run_bind, hrun, Result.andThen_ok, Sem.run_pure, Oper.upon]
 exact h _ _ (hf.put hn _) hp
end Go.Proofs.YtgocbiiolmmonaaDoor
namespace Go.Proofs.YtgocbiiolmmonaaDoor
open Go Go.RowKit Go.Sort
def aan : List Value := [Value.int .u64 1, Value.int .u64 10, Value.int .u64 100, Value.int .u64 1000, Value.int .u64 10000, Value.int .u64 100000, Value.int .u64 1000000, Value.int .u64 10000000, Value.int .u64 100000000, Value.int .u64 1000000000, Value.int .u64 10000000000, Value.int .u64 100000000000, Value.int .u64 1000000000000, Value.int .u64 10000000000000, Value.int .u64 100000000000000, Value.int .u64 1000000000000000, Value.int .u64 10000000000000000, Value.int .u64 100000000000000000, Value.int .u64 1000000000000000000, Value.int .u64 10000000000000000000]
theorem aio : (Lib.pow10Tab.map fun z => Value.int .u64 z) = aan := by rfl
theorem ab5 : Tryd.prog.globalNamed "internal/strconv.uint64pow10" = some 6 := by kernel_rfl
theorem ah3 (w : World) (k : Nat) (os : Array Obj) : Below w.heap.size w (grow (w.drewN k) os) := by
 refine ⟨rfl, rfl, rfl, ?_, fun j hj => ?_⟩
 ·show w.heap.size ≤ (w.heap ++ os).size
  rw [Array.size_append]; omega
 ·show (w.heap ++ os)[j]? = _
  rw [Array.getElem?_append_left (by omega)]
theorem aak (te : TypeId) (fre : Nat × Nat) (n : Int) (h : I64 n) : i7 Tryd.prog 12 [.int .i64 n] [(6, .cells aan.toArray te fre)] [] (Ret (st (Lib.itoa n)) []) := by
 intro w M hO hn hl hR
 have hM : M = [] := hO
 subst hM
 have hb := (hR _ (List.mem_singleton.2 rfl)).1
 have htab : Lib.TabIs Tryd.prog w "internal/strconv.uint64pow10" .u64 Lib.pow10Tab := by
  unfold Lib.TabIs World.var?
  rw [ab5, aio]
  simp only [Option.bind_some, hb]
 refine (Tryd.strconv_Itoa n h.1 h.2 w htab).mono ?_
 rintro e w' ⟨rfl, k, os, rfl⟩
 exact ⟨[], .inl ⟨_, rfl, rfl⟩, (Hp.start 0 [] w (H := []) (M := []) rfl hn (fun k hk => by cases hk) hR).below (ah3 _ _ _)⟩
theorem afm (s : Bs) (c : UInt8) : i7 Tryd.prog 14 [st s, st [c]] [] [] (Ret (.bool (decide (0 ≤ Lib.indexByte s c))) []) :=
 i7.ofPure fun w => (Tryd.strings_Contains_one ⟨s.toArray⟩ c w).mono fun _ _ ⟨h1, h2⟩ => by subst h2; exact ⟨h1, Below.refl _ _⟩
section
variable {P : Program} {C : Cx} {L : Sl} {H : List HA} {x y : Operand} {t e' ty : TypeId} {d : Option Tmp} {p : String} {e : Array Edge} {g : Option (Nat × Bool)} {k : IntKind}
end
end Go.Proofs.YtgocbiiolmmonaaDoor
