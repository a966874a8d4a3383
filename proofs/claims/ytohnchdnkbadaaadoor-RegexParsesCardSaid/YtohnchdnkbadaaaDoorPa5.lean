/-
  Merged: RxV, TiedR, RxT, RfD.
-/
import Derived.Test.YtohnchdnkbadaaaDoorRows
import Derived.Test.YtohnchdnkbadaaaDoorCards
import Derived.Test.YtohnchdnkbadaaaDoorTie
import Derived.Test.YtohnchdnkbadaaaDoorPa4
set_option maxRecDepth 100000
namespace Go.Proofs.YtohnchdnkbadaaaDoor
open Go Go.RowKit
theorem alf : Program.concrete Tryd.prog 87 = true := by kernel_rfl
theorem ad5 : l9 Tryd.prog 51 0 = some 0 := by kernel_rfl
theorem j9 : abw Tryd.prog 23 = true := by kernel_rfl
theorem v6 : o6 Tryd.prog 56 = true := by kernel_rfl
theorem ad6 : l9 Tryd.prog 51 1 = some 1 := by kernel_rfl
theorem ada : l9 Tryd.prog 165 0 = some 0 := by kernel_rfl
theorem ade : l9 Tryd.prog 165 1 = some 1 := by kernel_rfl
theorem afv : l9 Tryd.prog 167 0 = some 0 := by kernel_rfl
theorem adm : l9 Tryd.prog 163 0 = some 0 := by kernel_rfl
theorem adf : l9 Tryd.prog 163 1 = some 1 := by kernel_rfl
theorem adl : l9 Tryd.prog 164 0 = some 0 := by kernel_rfl
theorem adc : l9 Tryd.prog 164 1 = some 1 := by kernel_rfl
theorem aeh : aed Tryd.prog 163 = true := by kernel_rfl
theorem af2 : afs Tryd.prog 163 = some (Value.agg [Tr.val Tr.none, Tr.val Tr.none].toArray) := by kernel_rfl
theorem agb : aed Tryd.prog 164 = true := by kernel_rfl
theorem air : afs Tryd.prog 164 = some (Value.agg [Tr.val Tr.none, Tr.val Tr.none].toArray) := by kernel_rfl
theorem aj3 : aed Tryd.prog 51 = true := by kernel_rfl
theorem app : afs Tryd.prog 51 = some (Value.agg [Tr.val Tr.none, Tr.val Tr.none].toArray) := by kernel_rfl
theorem ac4 : aed Tryd.prog 165 = true := by kernel_rfl
theorem aen : afs Tryd.prog 165 = some (Value.agg [Tr.val Tr.none, Tr.val Tr.none].toArray) := by kernel_rfl
theorem anj : aed Tryd.prog 167 = true := by kernel_rfl
theorem at6 : afs Tryd.prog 167 = some (Value.agg [Tr.val Tr.none].toArray) := by kernel_rfl
theorem ar0 : abm Tryd.prog 51 = some [Tr.val Tr.none, Tr.val Tr.none] := by kernel_rfl
theorem asq : s8 Tryd.prog 51 2 = true := by kernel_rfl
theorem aqv : abm Tryd.prog 165 = some [Tr.val Tr.none, Tr.val Tr.none] := by kernel_rfl
theorem apw : s8 Tryd.prog 165 2 = true := by kernel_rfl
theorem aqo : abm Tryd.prog 167 = some [Tr.val Tr.none] := by kernel_rfl
theorem ap1 : s8 Tryd.prog 167 1 = true := by kernel_rfl
theorem atd : Program.concrete Tryd.prog 51 = true := by kernel_rfl
theorem apl : Program.concrete Tryd.prog 165 = true := by kernel_rfl
theorem apd : Program.concrete Tryd.prog 167 = true := by kernel_rfl
theorem apg : abm Tryd.prog 163 = some [Tr.val Tr.none, Tr.val Tr.none] := by kernel_rfl
theorem apr : s8 Tryd.prog 163 2 = true := by kernel_rfl
theorem aoy : Program.concrete Tryd.prog 163 = true := by kernel_rfl
theorem aqt : abm Tryd.prog 164 = some [Tr.val Tr.none, Tr.val Tr.none] := by kernel_rfl
theorem apa : s8 Tryd.prog 164 2 = true := by kernel_rfl
theorem aqc : Program.concrete Tryd.prog 164 = true := by kernel_rfl
theorem acy : aed Tryd.prog 49 = true := by kernel_rfl
theorem adi : afs Tryd.prog 49 = some (Value.agg [].toArray) := by kernel_rfl
theorem adp : aed Tryd.prog 87 = true := by kernel_rfl
theorem aeq : afs Tryd.prog 87 = some (Value.agg (wl cs0).toArray) := by kernel_rfl
theorem asw : abm Tryd.prog 49 = some [] := by kernel_rfl
theorem asl : s8 Tryd.prog 49 0 = true := by kernel_rfl
theorem asd : abm Tryd.prog 87 = some (wl cs0) := by kernel_rfl
theorem asu : s8 Tryd.prog 87 4 = true := by kernel_rfl
theorem al8 : l9 Tryd.prog 87 0 = some 0 := by kernel_rfl
theorem at5 : o6 Tryd.prog 86 = true := by kernel_rfl
theorem aaz : o6 Tryd.prog 51 = true := by kernel_rfl
theorem c8.ofPureE {f : FuncId} {vs : List Value} {v : Value} (te : TypeId) (fre : Nat × Nat) (h : aht f vs.toArray v) : c8 Tryd.prog f vs (z6 te fre) [] (Ret v []) := fun w M hO hn _ hr => by
 have : M = [] := hO
 subst this
 refine (h w ⟨te, fre, (hr (1, .cells aba te fre) (List.mem_singleton.2 rfl)).1⟩).mono ?_
 rintro en w' ⟨rfl, hb⟩
 exact ⟨[], .inl ⟨v, rfl, rfl⟩, (Hp.start 0 [] w (H := []) rfl hn (fun k hk => by cases hk) hr).below hb⟩
def aok (n : Tr) (K : Tr → Prop) : Prop :=
 (if n.isNone = true then
  K (.cls cs0)
 else
  K n)
theorem ax1  (n : Tr) (K : Tr → Prop) (h : aok n K) :
  c8 Tryd.prog 56 [Tr.val n] [] [] (fun o => (∃ (v : Tr), K v ∧ o = .ret (Tr.val v) []) ∨ (False)) := by
 unfold aok at h
 refine c6 (n := 8) (L0 := [(0, Tr.val n)]) Tryd.func56 rfl rfl rfl rfl (fun w0 M Q hE => ?_)
 refine a6 (fun _ hK => ?_)
 refine a4 ?_
 refine wa ?_
 refine WL.nil ?_
 refine kg (hK [(0, Tr.val n)] _ ?_)
 refine a6 (fun _ hK_1' => ?_)
 refine a6 (fun _ hK_2' => ?_)
 refine a4 ?_
 refine wm ?_
 refine wv (OV.eqlTr rfl Tryd.underlying23) ?_
 refine WL.nil ?_
 refine kg (hK_2' [(0, Tr.val n), (4, zB n.isNone)] _ ?_)
 refine b5 (b := n.isNone) rfl (fun hb => ?_) (fun hb => ?_)
 ·replace h := j4 h hb
  refine a6 (fun _ hK_3' => ?_)
  refine a4 ?_
  refine wv (OV.build rfl (cs := wl cs0) rfl) ?_
  refine wv (OV.cast (OV.iface rfl alf) (v' := Tr.val (.cls cs0)) rfl) ?_
  refine wa ?_
  refine WL.nil ?_
  refine kg (hK_3' [(2, Tr.val (.cls cs0))] _ ?_)
  refine b9 ?_
  exact hE.ret [] rfl rfl (.inl ⟨_, h, rfl⟩) (d8.of1 rfl (RV.tmp rfl))
 ·replace h := i9 h hb
  refine b7 ?_
  refine kg (hK_1' [(0, Tr.val n)] _ ?_)
  refine a6 (fun _ hK_4' => ?_)
  refine a4 ?_
  refine wm ?_
  refine wa ?_
  refine WL.nil ?_
  refine kg (hK_4' [(2, Tr.val n)] _ ?_)
  refine b9 ?_
  exact hE.ret [] rfl rfl (.inl ⟨_, h, rfl⟩) (d8.of1 rfl (RV.tmp rfl))
theorem Tr.val_one (x : Tr) : x.val.oneCell' = true := by cases x <;> rfl
theorem Tr.val_cells (x : Tr) : x.val.cells = [x.val].toArray := am3 x.val_one
theorem u9 (x : Tr) : c8 Tryd.prog 56 [x.val] [] [] (Ret x.sure.val []) :=
 c8.one (ax1 x (fun v => v = x.sure) (by unfold aok; cases x <;> simp [Tr.isNone, Tr.sure]))
def ala : Tr → Int
 | .alt _ _ => 0
 | .and _ _ | .minus _ _ => 1
 | .cat _ _ => 2
 | .star _ => 3
 | _ => 4
def agf (x : Tr) (n : Int) (s : List UInt8) : List UInt8 := if ala x < n then [40] ++ s ++ [41] else s
def w4 : Tr → List UInt8
 | .none => [91, 93]
 | .eps => [40, 41]
 | .cls s => x8 s
 | .alt a b => (agf a 0 (w4 a) ++ [124]) ++ agf b 1 (w4 b)
 | .and a b => (agf a 1 (w4 a) ++ [38]) ++ agf b 2 (w4 b)
 | .minus a b => (agf a 1 (w4 a) ++ [45]) ++ agf b 2 (w4 b)
 | .cat a b => agf a 2 (w4 a) ++ agf b 3 (w4 b)
 | .star a => agf a 3 (w4 a) ++ [42]
def b8 (x : Tr) (n : Int) : List UInt8 := agf x n (w4 x)
theorem ah7 (x : Tr) (n : Int) (s : List UInt8) : (agf x n s).length ≤ s.length + 2 := by
 unfold agf; split <;> simp
def al7  (K : Int → Prop) : Prop :=
 K 1
theorem arc   (K : Int → Prop) (h : al7  K) :
  c8 Tryd.prog 200 [Value.agg [].toArray] [] [] (fun o => (∃ (v : Int), K v ∧ o = .ret (zI v) []) ∨ (False)) := by
 unfold al7 at h
 refine c6 (n := 3) (L0 := [(0, Value.agg [].toArray)]) Tryd.func200 rfl rfl rfl rfl (fun w0 M Q hE => ?_)
 refine a6 (fun _ hK => ?_)
 refine a4 ?_
 refine WL.make (MV.box (cs := []) rfl rfl) rfl rfl rfl (fun b => ?_)
 refine wa ?_
 refine WL.nil ?_
 refine KX.go (hK [] _ ?_) trivial
 refine a6 (fun _ hK_1' => ?_)
 refine a4 ?_
 refine wa ?_
 refine WL.nil ?_
 refine kg (hK_1' [(2, zI 1)] _ ?_)
 refine b9 ?_
 exact hE.ret [] rfl rfl (.inl ⟨_, h, rfl⟩) (d8.of1 rfl (RV.tmp rfl))
def alv (_ : CS) (K : Int → Prop) : Prop :=
 K 1
theorem aso  (a0 : CS) (K : Int → Prop) (h : alv a0 K) :
  c8 Tryd.prog 202 [Value.agg (wl a0).toArray] [] [] (fun o => (∃ (v : Int), K v ∧ o = .ret (zI v) []) ∨ (False)) := by
 unfold alv at h
 refine c6 (n := 3) (L0 := [(0, Value.agg (wl a0).toArray)]) Tryd.func202 rfl rfl rfl rfl (fun w0 M Q hE => ?_)
 refine a6 (fun _ hK => ?_)
 refine a4 ?_
 refine WL.make (MV.box (cs := wl a0) rfl rfl) rfl rfl rfl (fun b => ?_)
 refine wa ?_
 refine WL.nil ?_
 refine KX.go (hK [] _ ?_) trivial
 refine a6 (fun _ hK_1' => ?_)
 refine a4 ?_
 refine wa ?_
 refine WL.nil ?_
 refine kg (hK_1' [(2, zI 1)] _ ?_)
 refine b9 ?_
 exact hE.ret [] rfl rfl (.inl ⟨_, h, rfl⟩) (d8.of1 rfl (RV.tmp rfl))
def alj (n_0 : Tr) (n_1 : Tr) (K : Int → Prop) : Prop :=
 (aan Tryd.prog (Tr.val n_0.sure) "Size" [] (zI ((n_0.sure.size : Nat) : Int))) ∧
 (I64 (1 + ((n_0.sure.size : Nat) : Int))) ∧
 (aan Tryd.prog (Tr.val n_1.sure) "Size" [] (zI ((n_1.sure.size : Nat) : Int))) ∧
 (I64 ((1 + ((n_0.sure.size : Nat) : Int)) + ((n_1.sure.size : Nat) : Int))) ∧
 K ((1 + ((n_0.sure.size : Nat) : Int)) + ((n_1.sure.size : Nat) : Int))
theorem aqy  (n_0 : Tr) (n_1 : Tr) (K : Int → Prop) (h : alj n_0 n_1 K) :
  c8 Tryd.prog 27 [Value.agg [Tr.val n_0, Tr.val n_1].toArray] [] [] (fun o => (∃ (v : Int), K v ∧ o = .ret (zI v) []) ∨ (False)) := by
 unfold alj at h
 refine c6 (n := 13) (L0 := [(0, Value.agg [Tr.val n_0, Tr.val n_1].toArray)]) Tryd.func27 rfl rfl rfl rfl (fun w0 M Q hE => ?_)
 refine a6 (fun _ hK => ?_)
 refine a4 ?_
 refine WL.make (MV.box (cs := [Tr.val n_0, Tr.val n_1]) rfl rfl) rfl rfl rfl (fun b => ?_)
 refine wa ?_
 refine WL.nil ?_
 refine kg (hK [(1, zP b)] _ ?_)
 refine a6 (fun _ hK_1' => ?_)
 refine n9 9 [] f0 (by kernel_rfl) rfl (fun T hT => ?_)
 refine fv (fun _ => OV.fieldAddr0 rfl ad5) ?_
 refine fv (fun _ => OV.load rfl (At.own 0 rfl) rfl j9) ?_
 refine FL.call v6 (fun _ => rfl) (u9 n_0) trivial rfl (fun _ => rfl) rfl ?_
 obtain ⟨o, h⟩ := h
 refine FL.cv (fun _ => CV.meth rfl o rfl) rfl rfl (fun _ => rfl) rfl ?_
 obtain ⟨o_1', h⟩ := h
 refine fv (fun _ => OV.add rfl rfl o_1') ?_
 refine fv (fun _ => OV.fieldAddr0 rfl ad6) ?_
 refine fv (fun _ => OV.load rfl (At.own 0 rfl) rfl j9) ?_
 refine FL.call v6 (fun _ => rfl) (u9 n_1) trivial rfl (fun _ => rfl) rfl ?_
 obtain ⟨o_2', h⟩ := h
 refine FL.cv (fun _ => CV.meth rfl o_2' rfl) rfl rfl (fun _ => rfl) rfl ?_
 refine FL.weak (L' := fun γ => [(7, zI (1 + ((n_0.sure.size : Nat) : Int))), (11, zI ((n_1.sure.size : Nat) : Int))]) (fun γ => ⟨rfl, rfl, trivial⟩) (FL.nil (hT (fun γ => [(7, zI (1 + ((n_0.sure.size : Nat) : Int))), (11, zI ((n_1.sure.size : Nat) : Int))]) (fun γ => ?_)))
 obtain ⟨o_3', h⟩ := h
 refine wv (OV.add rfl rfl o_3') ?_
 refine wa ?_
 refine WL.nil ?_
 refine kg (hK_1' [(2, zI ((1 + ((n_0.sure.size : Nat) : Int)) + ((n_1.sure.size : Nat) : Int)))] _ ?_)
 refine b9 ?_
 exact hE.ret [] rfl rfl (.inl ⟨_, h, rfl⟩) (d8.of1 rfl (RV.tmp rfl))
def akw (n_0 : Tr) (n_1 : Tr) (K : Int → Prop) : Prop :=
 (aan Tryd.prog (Tr.val n_0.sure) "Size" [] (zI ((n_0.sure.size : Nat) : Int))) ∧
 (I64 (1 + ((n_0.sure.size : Nat) : Int))) ∧
 (aan Tryd.prog (Tr.val n_1.sure) "Size" [] (zI ((n_1.sure.size : Nat) : Int))) ∧
 (I64 ((1 + ((n_0.sure.size : Nat) : Int)) + ((n_1.sure.size : Nat) : Int))) ∧
 K ((1 + ((n_0.sure.size : Nat) : Int)) + ((n_1.sure.size : Nat) : Int))
theorem ass  (n_0 : Tr) (n_1 : Tr) (K : Int → Prop) (h : akw n_0 n_1 K) :
  c8 Tryd.prog 209 [Value.agg [Tr.val n_0, Tr.val n_1].toArray] [] [] (fun o => (∃ (v : Int), K v ∧ o = .ret (zI v) []) ∨ (False)) := by
 unfold akw at h
 refine c6 (n := 13) (L0 := [(0, Value.agg [Tr.val n_0, Tr.val n_1].toArray)]) Tryd.func209 rfl rfl rfl rfl (fun w0 M Q hE => ?_)
 refine a6 (fun _ hK => ?_)
 refine a4 ?_
 refine WL.make (MV.box (cs := [Tr.val n_0, Tr.val n_1]) rfl rfl) rfl rfl rfl (fun b => ?_)
 refine wa ?_
 refine WL.nil ?_
 refine kg (hK [(1, zP b)] _ ?_)
 refine a6 (fun _ hK_1' => ?_)
 refine n9 9 [] f0 (by kernel_rfl) rfl (fun T hT => ?_)
 refine fv (fun _ => OV.fieldAddr0 rfl ada) ?_
 refine fv (fun _ => OV.load rfl (At.own 0 rfl) rfl j9) ?_
 refine FL.call v6 (fun _ => rfl) (u9 n_0) trivial rfl (fun _ => rfl) rfl ?_
 obtain ⟨o, h⟩ := h
 refine FL.cv (fun _ => CV.meth rfl o rfl) rfl rfl (fun _ => rfl) rfl ?_
 obtain ⟨o_1', h⟩ := h
 refine fv (fun _ => OV.add rfl rfl o_1') ?_
 refine fv (fun _ => OV.fieldAddr0 rfl ade) ?_
 refine fv (fun _ => OV.load rfl (At.own 0 rfl) rfl j9) ?_
 refine FL.call v6 (fun _ => rfl) (u9 n_1) trivial rfl (fun _ => rfl) rfl ?_
 obtain ⟨o_2', h⟩ := h
 refine FL.cv (fun _ => CV.meth rfl o_2' rfl) rfl rfl (fun _ => rfl) rfl ?_
 refine FL.weak (L' := fun γ => [(7, zI (1 + ((n_0.sure.size : Nat) : Int))), (11, zI ((n_1.sure.size : Nat) : Int))]) (fun γ => ⟨rfl, rfl, trivial⟩) (FL.nil (hT (fun γ => [(7, zI (1 + ((n_0.sure.size : Nat) : Int))), (11, zI ((n_1.sure.size : Nat) : Int))]) (fun γ => ?_)))
 obtain ⟨o_3', h⟩ := h
 refine wv (OV.add rfl rfl o_3') ?_
 refine wa ?_
 refine WL.nil ?_
 refine kg (hK_1' [(2, zI ((1 + ((n_0.sure.size : Nat) : Int)) + ((n_1.sure.size : Nat) : Int)))] _ ?_)
 refine b9 ?_
 exact hE.ret [] rfl rfl (.inl ⟨_, h, rfl⟩) (d8.of1 rfl (RV.tmp rfl))
def aiw (n_0 : Tr) (K : Int → Prop) : Prop :=
 (aan Tryd.prog (Tr.val n_0.sure) "Size" [] (zI ((n_0.sure.size : Nat) : Int))) ∧
 (I64 (1 + ((n_0.sure.size : Nat) : Int))) ∧
 K (1 + ((n_0.sure.size : Nat) : Int))
theorem apk  (n_0 : Tr) (K : Int → Prop) (h : aiw n_0 K) :
  c8 Tryd.prog 211 [Value.agg [Tr.val n_0].toArray] [] [] (fun o => (∃ (v : Int), K v ∧ o = .ret (zI v) []) ∨ (False)) := by
 unfold aiw at h
 refine c6 (n := 8) (L0 := [(0, Value.agg [Tr.val n_0].toArray)]) Tryd.func211 rfl rfl rfl rfl (fun w0 M Q hE => ?_)
 refine a6 (fun _ hK => ?_)
 refine a4 ?_
 refine WL.make (MV.box (cs := [Tr.val n_0]) rfl rfl) rfl rfl rfl (fun b => ?_)
 refine wa ?_
 refine WL.nil ?_
 refine kg (hK [(1, zP b)] _ ?_)
 refine a6 (fun _ hK_1' => ?_)
 refine a4 ?_
 refine wv (OV.fieldAddr0 rfl afv) ?_
 refine wv (OV.load rfl (At.own 0 rfl) rfl j9) ?_
 refine WL.call (A := []) v6 rfl (u9 n_0) rfl trivial rfl rfl ?_
 obtain ⟨o, h⟩ := h
 refine WL.cv (CV.meth rfl o rfl) rfl rfl rfl ?_
 obtain ⟨o_1', h⟩ := h
 refine wv (OV.add rfl rfl o_1') ?_
 refine wa ?_
 refine WL.nil ?_
 refine kg (hK_1' [(2, zI (1 + ((n_0.sure.size : Nat) : Int)))] _ ?_)
 refine b9 ?_
 exact hE.ret [] rfl rfl (.inl ⟨_, h, rfl⟩) (d8.of1 rfl (RV.tmp rfl))
def ak1 (n_0 : Tr) (n_1 : Tr) (K : Int → Prop) : Prop :=
 (aan Tryd.prog (Tr.val n_0.sure) "Size" [] (zI ((n_0.sure.size : Nat) : Int))) ∧
 (I64 (1 + ((n_0.sure.size : Nat) : Int))) ∧
 (aan Tryd.prog (Tr.val n_1.sure) "Size" [] (zI ((n_1.sure.size : Nat) : Int))) ∧
 (I64 ((1 + ((n_0.sure.size : Nat) : Int)) + ((n_1.sure.size : Nat) : Int))) ∧
 K ((1 + ((n_0.sure.size : Nat) : Int)) + ((n_1.sure.size : Nat) : Int))
theorem ar1  (n_0 : Tr) (n_1 : Tr) (K : Int → Prop) (h : ak1 n_0 n_1 K) :
  c8 Tryd.prog 205 [Value.agg [Tr.val n_0, Tr.val n_1].toArray] [] [] (fun o => (∃ (v : Int), K v ∧ o = .ret (zI v) []) ∨ (False)) := by
 unfold ak1 at h
 refine c6 (n := 13) (L0 := [(0, Value.agg [Tr.val n_0, Tr.val n_1].toArray)]) Tryd.func205 rfl rfl rfl rfl (fun w0 M Q hE => ?_)
 refine a6 (fun _ hK => ?_)
 refine a4 ?_
 refine WL.make (MV.box (cs := [Tr.val n_0, Tr.val n_1]) rfl rfl) rfl rfl rfl (fun b => ?_)
 refine wa ?_
 refine WL.nil ?_
 refine kg (hK [(1, zP b)] _ ?_)
 refine a6 (fun _ hK_1' => ?_)
 refine n9 9 [] f0 (by kernel_rfl) rfl (fun T hT => ?_)
 refine fv (fun _ => OV.fieldAddr0 rfl adm) ?_
 refine fv (fun _ => OV.load rfl (At.own 0 rfl) rfl j9) ?_
 refine FL.call v6 (fun _ => rfl) (u9 n_0) trivial rfl (fun _ => rfl) rfl ?_
 obtain ⟨o, h⟩ := h
 refine FL.cv (fun _ => CV.meth rfl o rfl) rfl rfl (fun _ => rfl) rfl ?_
 obtain ⟨o_1', h⟩ := h
 refine fv (fun _ => OV.add rfl rfl o_1') ?_
 refine fv (fun _ => OV.fieldAddr0 rfl adf) ?_
 refine fv (fun _ => OV.load rfl (At.own 0 rfl) rfl j9) ?_
 refine FL.call v6 (fun _ => rfl) (u9 n_1) trivial rfl (fun _ => rfl) rfl ?_
 obtain ⟨o_2', h⟩ := h
 refine FL.cv (fun _ => CV.meth rfl o_2' rfl) rfl rfl (fun _ => rfl) rfl ?_
 refine FL.weak (L' := fun γ => [(7, zI (1 + ((n_0.sure.size : Nat) : Int))), (11, zI ((n_1.sure.size : Nat) : Int))]) (fun γ => ⟨rfl, rfl, trivial⟩) (FL.nil (hT (fun γ => [(7, zI (1 + ((n_0.sure.size : Nat) : Int))), (11, zI ((n_1.sure.size : Nat) : Int))]) (fun γ => ?_)))
 obtain ⟨o_3', h⟩ := h
 refine wv (OV.add rfl rfl o_3') ?_
 refine wa ?_
 refine WL.nil ?_
 refine kg (hK_1' [(2, zI ((1 + ((n_0.sure.size : Nat) : Int)) + ((n_1.sure.size : Nat) : Int)))] _ ?_)
 refine b9 ?_
 exact hE.ret [] rfl rfl (.inl ⟨_, h, rfl⟩) (d8.of1 rfl (RV.tmp rfl))
def ah4 (n_0 : Tr) (n_1 : Tr) (K : Int → Prop) : Prop :=
 (aan Tryd.prog (Tr.val n_0.sure) "Size" [] (zI ((n_0.sure.size : Nat) : Int))) ∧
 (I64 (1 + ((n_0.sure.size : Nat) : Int))) ∧
 (aan Tryd.prog (Tr.val n_1.sure) "Size" [] (zI ((n_1.sure.size : Nat) : Int))) ∧
 (I64 ((1 + ((n_0.sure.size : Nat) : Int)) + ((n_1.sure.size : Nat) : Int))) ∧
 K ((1 + ((n_0.sure.size : Nat) : Int)) + ((n_1.sure.size : Nat) : Int))
theorem an0  (n_0 : Tr) (n_1 : Tr) (K : Int → Prop) (h : ah4 n_0 n_1 K) :
  c8 Tryd.prog 207 [Value.agg [Tr.val n_0, Tr.val n_1].toArray] [] [] (fun o => (∃ (v : Int), K v ∧ o = .ret (zI v) []) ∨ (False)) := by
 unfold ah4 at h
 refine c6 (n := 13) (L0 := [(0, Value.agg [Tr.val n_0, Tr.val n_1].toArray)]) Tryd.func207 rfl rfl rfl rfl (fun w0 M Q hE => ?_)
 refine a6 (fun _ hK => ?_)
 refine a4 ?_
 refine WL.make (MV.box (cs := [Tr.val n_0, Tr.val n_1]) rfl rfl) rfl rfl rfl (fun b => ?_)
 refine wa ?_
 refine WL.nil ?_
 refine kg (hK [(1, zP b)] _ ?_)
 refine a6 (fun _ hK_1' => ?_)
 refine n9 9 [] f0 (by kernel_rfl) rfl (fun T hT => ?_)
 refine fv (fun _ => OV.fieldAddr0 rfl adl) ?_
 refine fv (fun _ => OV.load rfl (At.own 0 rfl) rfl j9) ?_
 refine FL.call v6 (fun _ => rfl) (u9 n_0) trivial rfl (fun _ => rfl) rfl ?_
 obtain ⟨o, h⟩ := h
 refine FL.cv (fun _ => CV.meth rfl o rfl) rfl rfl (fun _ => rfl) rfl ?_
 obtain ⟨o_1', h⟩ := h
 refine fv (fun _ => OV.add rfl rfl o_1') ?_
 refine fv (fun _ => OV.fieldAddr0 rfl adc) ?_
 refine fv (fun _ => OV.load rfl (At.own 0 rfl) rfl j9) ?_
 refine FL.call v6 (fun _ => rfl) (u9 n_1) trivial rfl (fun _ => rfl) rfl ?_
 obtain ⟨o_2', h⟩ := h
 refine FL.cv (fun _ => CV.meth rfl o_2' rfl) rfl rfl (fun _ => rfl) rfl ?_
 refine FL.weak (L' := fun γ => [(7, zI (1 + ((n_0.sure.size : Nat) : Int))), (11, zI ((n_1.sure.size : Nat) : Int))]) (fun γ => ⟨rfl, rfl, trivial⟩) (FL.nil (hT (fun γ => [(7, zI (1 + ((n_0.sure.size : Nat) : Int))), (11, zI ((n_1.sure.size : Nat) : Int))]) (fun γ => ?_)))
 obtain ⟨o_3', h⟩ := h
 refine wv (OV.add rfl rfl o_3') ?_
 refine wa ?_
 refine WL.nil ?_
 refine kg (hK_1' [(2, zI ((1 + ((n_0.sure.size : Nat) : Int)) + ((n_1.sure.size : Nat) : Int)))] _ ?_)
 refine b9 ?_
 exact hE.ret [] rfl rfl (.inl ⟨_, h, rfl⟩) (d8.of1 rfl (RV.tmp rfl))
def al4  (K : Bool → Prop) : Prop :=
 K true
theorem asy   (K : Bool → Prop) (h : al4  K) :
  c8 Tryd.prog 199 [Value.agg [].toArray] [] [] (fun o => (∃ (v : Bool), K v ∧ o = .ret (zB v) []) ∨ (False)) := by
 unfold al4 at h
 refine c6 (n := 3) (L0 := [(0, Value.agg [].toArray)]) Tryd.func199 rfl rfl rfl rfl (fun w0 M Q hE => ?_)
 refine a6 (fun _ hK => ?_)
 refine a4 ?_
 refine WL.make (MV.box (cs := []) rfl rfl) rfl rfl rfl (fun b => ?_)
 refine wa ?_
 refine WL.nil ?_
 refine KX.go (hK [] _ ?_) trivial
 refine a6 (fun _ hK_1' => ?_)
 refine a4 ?_
 refine wa ?_
 refine WL.nil ?_
 refine kg (hK_1' [(2, zB true)] _ ?_)
 refine b9 ?_
 exact hE.ret [] rfl rfl (.inl ⟨_, h, rfl⟩) (d8.of1 rfl (RV.tmp rfl))
def alx (_ : CS) (K : Bool → Prop) : Prop :=
 K false
theorem asr  (a0 : CS) (K : Bool → Prop) (h : alx a0 K) :
  c8 Tryd.prog 201 [Value.agg (wl a0).toArray] [] [] (fun o => (∃ (v : Bool), K v ∧ o = .ret (zB v) []) ∨ (False)) := by
 unfold alx at h
 refine c6 (n := 3) (L0 := [(0, Value.agg (wl a0).toArray)]) Tryd.func201 rfl rfl rfl rfl (fun w0 M Q hE => ?_)
 refine a6 (fun _ hK => ?_)
 refine a4 ?_
 refine WL.make (MV.box (cs := wl a0) rfl rfl) rfl rfl rfl (fun b => ?_)
 refine wa ?_
 refine WL.nil ?_
 refine KX.go (hK [] _ ?_) trivial
 refine a6 (fun _ hK_1' => ?_)
 refine a4 ?_
 refine wa ?_
 refine WL.nil ?_
 refine kg (hK_1' [(2, zB false)] _ ?_)
 refine b9 ?_
 exact hE.ret [] rfl rfl (.inl ⟨_, h, rfl⟩) (d8.of1 rfl (RV.tmp rfl))
def aj6 (n_0 : Tr) (n_1 : Tr) (K : Bool → Prop) : Prop :=
 (aan Tryd.prog (Tr.val n_0.sure) "Nullable" [] (zB n_0.sure.null)) ∧
 (n_0.sure.null = true → (aan Tryd.prog (Tr.val n_1.sure) "Nullable" [] (zB n_1.sure.null))) ∧
 K (n_0.sure.null && n_1.sure.null)
theorem are  (n_0 : Tr) (n_1 : Tr) (K : Bool → Prop) (h : aj6 n_0 n_1 K) :
  c8 Tryd.prog 28 [Value.agg [Tr.val n_0, Tr.val n_1].toArray] [] [] (fun o => (∃ (v : Bool), K v ∧ o = .ret (zB v) []) ∨ (False)) := by
 unfold aj6 at h
 refine c6 (n := 13) (L0 := [(0, Value.agg [Tr.val n_0, Tr.val n_1].toArray)]) Tryd.func28 rfl rfl rfl rfl (fun w0 M Q hE => ?_)
 refine a6 (fun _ hK => ?_)
 refine a4 ?_
 refine WL.make (MV.box (cs := [Tr.val n_0, Tr.val n_1]) rfl rfl) rfl rfl rfl (fun b => ?_)
 refine wa ?_
 refine WL.nil ?_
 refine kg (hK [(1, zP b)] _ ?_)
 refine a6 (fun _ hK_1' => ?_)
 refine a4 ?_
 refine wv (OV.fieldAddr0 rfl ad5) ?_
 refine wv (OV.load rfl (At.own 0 rfl) rfl j9) ?_
 refine WL.call (A := []) v6 rfl (u9 n_0) rfl trivial rfl rfl ?_
 obtain ⟨o, h⟩ := h
 refine WL.cv (CV.meth rfl o rfl) rfl rfl rfl ?_
 refine wm ?_
 obtain ⟨o_2', h⟩ := h
 refine WL.cut 5 [(12, zB (n_0.sure.null && n_1.sure.null))] ?_ (fun K0_2' hK_2' => ?_)
 rotate_left
 ·refine WL.split (n_0.sure.null) (fun hb => ?_) (fun hb => ?_)
  ·have o_1' := o_2' hb
   refine WL.set 7 rfl (congrArg zB hb) ?_
   refine wv (OV.fieldAddr0 rfl ad6) ?_
   refine wv (OV.load rfl (At.own 0 rfl) rfl j9) ?_
   refine WL.call (A := []) v6 rfl (u9 n_1) rfl trivial rfl rfl ?_
   refine WL.cv (CV.meth rfl o_1' rfl) rfl rfl rfl ?_
   refine wv (OV.pickT rfl rfl) ?_
   refine WL.set 12 rfl (bT (v := n_1.sure.null) hb) ?_
   exact WL.end_ (kg hK_2')
  ·refine WL.set 7 rfl (congrArg zB hb) ?_
   refine wk ?_
   refine wk ?_
   refine wk ?_
   refine wk ?_
   refine wv (OV.pickF rfl rfl) ?_
   refine WL.set 12 rfl (bF (v := n_1.sure.null) hb) ?_
   exact WL.end_ (kg hK_2')
 refine wa ?_
 refine WL.nil ?_
 refine kg (hK_1' [(2, zB (n_0.sure.null && n_1.sure.null))] _ ?_)
 refine b9 ?_
 exact hE.ret [] rfl rfl (.inl ⟨_, h, rfl⟩) (d8.of1 rfl (RV.tmp rfl))
def alm (n_0 : Tr) (n_1 : Tr) (K : Bool → Prop) : Prop :=
 (aan Tryd.prog (Tr.val n_0.sure) "Nullable" [] (zB n_0.sure.null)) ∧
 (n_0.sure.null = false → (aan Tryd.prog (Tr.val n_1.sure) "Nullable" [] (zB n_1.sure.null))) ∧
 K (n_0.sure.null || n_1.sure.null)
theorem aq8  (n_0 : Tr) (n_1 : Tr) (K : Bool → Prop) (h : alm n_0 n_1 K) :
  c8 Tryd.prog 208 [Value.agg [Tr.val n_0, Tr.val n_1].toArray] [] [] (fun o => (∃ (v : Bool), K v ∧ o = .ret (zB v) []) ∨ (False)) := by
 unfold alm at h
 refine c6 (n := 13) (L0 := [(0, Value.agg [Tr.val n_0, Tr.val n_1].toArray)]) Tryd.func208 rfl rfl rfl rfl (fun w0 M Q hE => ?_)
 refine a6 (fun _ hK => ?_)
 refine a4 ?_
 refine WL.make (MV.box (cs := [Tr.val n_0, Tr.val n_1]) rfl rfl) rfl rfl rfl (fun b => ?_)
 refine wa ?_
 refine WL.nil ?_
 refine kg (hK [(1, zP b)] _ ?_)
 refine a6 (fun _ hK_1' => ?_)
 refine a4 ?_
 refine wv (OV.fieldAddr0 rfl ada) ?_
 refine wv (OV.load rfl (At.own 0 rfl) rfl j9) ?_
 refine WL.call (A := []) v6 rfl (u9 n_0) rfl trivial rfl rfl ?_
 obtain ⟨o, h⟩ := h
 refine WL.cv (CV.meth rfl o rfl) rfl rfl rfl ?_
 refine wm ?_
 obtain ⟨o_2', h⟩ := h
 refine WL.cut 5 [(12, zB (n_0.sure.null || n_1.sure.null))] ?_ (fun K0_2' hK_2' => ?_)
 rotate_left
 ·refine WL.split (n_0.sure.null) (fun hb => ?_) (fun hb => ?_)
  ·refine WL.set 7 rfl (congrArg zB hb) ?_
   refine wk ?_
   refine wk ?_
   refine wk ?_
   refine wk ?_
   refine wv (OV.pickT rfl rfl) ?_
   refine WL.set 12 rfl (oT (v := n_1.sure.null) hb) ?_
   exact WL.end_ (kg hK_2')
  ·have o_1' := o_2' hb
   refine WL.set 7 rfl (congrArg zB hb) ?_
   refine wv (OV.fieldAddr0 rfl ade) ?_
   refine wv (OV.load rfl (At.own 0 rfl) rfl j9) ?_
   refine WL.call (A := []) v6 rfl (u9 n_1) rfl trivial rfl rfl ?_
   refine WL.cv (CV.meth rfl o_1' rfl) rfl rfl rfl ?_
   refine wv (OV.pickF rfl rfl) ?_
   refine WL.set 12 rfl (oF (v := n_1.sure.null) hb) ?_
   exact WL.end_ (kg hK_2')
 refine wa ?_
 refine WL.nil ?_
 refine kg (hK_1' [(2, zB (n_0.sure.null || n_1.sure.null))] _ ?_)
 refine b9 ?_
 exact hE.ret [] rfl rfl (.inl ⟨_, h, rfl⟩) (d8.of1 rfl (RV.tmp rfl))
def ai6 (_ : Tr) (K : Bool → Prop) : Prop :=
 K true
theorem ap3  (a0_0 : Tr) (K : Bool → Prop) (h : ai6 a0_0 K) :
  c8 Tryd.prog 210 [Value.agg [Tr.val a0_0].toArray] [] [] (fun o => (∃ (v : Bool), K v ∧ o = .ret (zB v) []) ∨ (False)) := by
 unfold ai6 at h
 refine c6 (n := 3) (L0 := [(0, Value.agg [Tr.val a0_0].toArray)]) Tryd.func210 rfl rfl rfl rfl (fun w0 M Q hE => ?_)
 refine a6 (fun _ hK => ?_)
 refine a4 ?_
 refine WL.make (MV.box (cs := [Tr.val a0_0]) rfl rfl) rfl rfl rfl (fun b => ?_)
 refine wa ?_
 refine WL.nil ?_
 refine KX.go (hK [] _ ?_) trivial
 refine a6 (fun _ hK_1' => ?_)
 refine a4 ?_
 refine wa ?_
 refine WL.nil ?_
 refine kg (hK_1' [(2, zB true)] _ ?_)
 refine b9 ?_
 exact hE.ret [] rfl rfl (.inl ⟨_, h, rfl⟩) (d8.of1 rfl (RV.tmp rfl))
def akc (n_0 : Tr) (n_1 : Tr) (K : Bool → Prop) : Prop :=
 (aan Tryd.prog (Tr.val n_0.sure) "Nullable" [] (zB n_0.sure.null)) ∧
 (n_0.sure.null = true → (aan Tryd.prog (Tr.val n_1.sure) "Nullable" [] (zB n_1.sure.null))) ∧
 K (n_0.sure.null && n_1.sure.null)
theorem ar3  (n_0 : Tr) (n_1 : Tr) (K : Bool → Prop) (h : akc n_0 n_1 K) :
  c8 Tryd.prog 204 [Value.agg [Tr.val n_0, Tr.val n_1].toArray] [] [] (fun o => (∃ (v : Bool), K v ∧ o = .ret (zB v) []) ∨ (False)) := by
 unfold akc at h
 refine c6 (n := 13) (L0 := [(0, Value.agg [Tr.val n_0, Tr.val n_1].toArray)]) Tryd.func204 rfl rfl rfl rfl (fun w0 M Q hE => ?_)
 refine a6 (fun _ hK => ?_)
 refine a4 ?_
 refine WL.make (MV.box (cs := [Tr.val n_0, Tr.val n_1]) rfl rfl) rfl rfl rfl (fun b => ?_)
 refine wa ?_
 refine WL.nil ?_
 refine kg (hK [(1, zP b)] _ ?_)
 refine a6 (fun _ hK_1' => ?_)
 refine a4 ?_
 refine wv (OV.fieldAddr0 rfl adm) ?_
 refine wv (OV.load rfl (At.own 0 rfl) rfl j9) ?_
 refine WL.call (A := []) v6 rfl (u9 n_0) rfl trivial rfl rfl ?_
 obtain ⟨o, h⟩ := h
 refine WL.cv (CV.meth rfl o rfl) rfl rfl rfl ?_
 refine wm ?_
 obtain ⟨o_2', h⟩ := h
 refine WL.cut 5 [(12, zB (n_0.sure.null && n_1.sure.null))] ?_ (fun K0_2' hK_2' => ?_)
 rotate_left
 ·refine WL.split (n_0.sure.null) (fun hb => ?_) (fun hb => ?_)
  ·have o_1' := o_2' hb
   refine WL.set 7 rfl (congrArg zB hb) ?_
   refine wv (OV.fieldAddr0 rfl adf) ?_
   refine wv (OV.load rfl (At.own 0 rfl) rfl j9) ?_
   refine WL.call (A := []) v6 rfl (u9 n_1) rfl trivial rfl rfl ?_
   refine WL.cv (CV.meth rfl o_1' rfl) rfl rfl rfl ?_
   refine wv (OV.pickT rfl rfl) ?_
   refine WL.set 12 rfl (bT (v := n_1.sure.null) hb) ?_
   exact WL.end_ (kg hK_2')
  ·refine WL.set 7 rfl (congrArg zB hb) ?_
   refine wk ?_
   refine wk ?_
   refine wk ?_
   refine wk ?_
   refine wv (OV.pickF rfl rfl) ?_
   refine WL.set 12 rfl (bF (v := n_1.sure.null) hb) ?_
   exact WL.end_ (kg hK_2')
 refine wa ?_
 refine WL.nil ?_
 refine kg (hK_1' [(2, zB (n_0.sure.null && n_1.sure.null))] _ ?_)
 refine b9 ?_
 exact hE.ret [] rfl rfl (.inl ⟨_, h, rfl⟩) (d8.of1 rfl (RV.tmp rfl))
def ah1 (n_0 : Tr) (n_1 : Tr) (K : Bool → Prop) : Prop :=
 (aan Tryd.prog (Tr.val n_0.sure) "Nullable" [] (zB n_0.sure.null)) ∧
 (n_0.sure.null = true → (aan Tryd.prog (Tr.val n_1.sure) "Nullable" [] (zB n_1.sure.null))) ∧
 K (n_0.sure.null && (!n_1.sure.null))
theorem an6  (n_0 : Tr) (n_1 : Tr) (K : Bool → Prop) (h : ah1 n_0 n_1 K) :
  c8 Tryd.prog 206 [Value.agg [Tr.val n_0, Tr.val n_1].toArray] [] [] (fun o => (∃ (v : Bool), K v ∧ o = .ret (zB v) []) ∨ (False)) := by
 unfold ah1 at h
 refine c6 (n := 14) (L0 := [(0, Value.agg [Tr.val n_0, Tr.val n_1].toArray)]) Tryd.func206 rfl rfl rfl rfl (fun w0 M Q hE => ?_)
 refine a6 (fun _ hK => ?_)
 refine a4 ?_
 refine WL.make (MV.box (cs := [Tr.val n_0, Tr.val n_1]) rfl rfl) rfl rfl rfl (fun b => ?_)
 refine wa ?_
 refine WL.nil ?_
 refine kg (hK [(1, zP b)] _ ?_)
 refine a6 (fun _ hK_1' => ?_)
 refine a4 ?_
 refine wv (OV.fieldAddr0 rfl adl) ?_
 refine wv (OV.load rfl (At.own 0 rfl) rfl j9) ?_
 refine WL.call (A := []) v6 rfl (u9 n_0) rfl trivial rfl rfl ?_
 obtain ⟨o, h⟩ := h
 refine WL.cv (CV.meth rfl o rfl) rfl rfl rfl ?_
 refine wm ?_
 obtain ⟨o_2', h⟩ := h
 refine WL.cut 6 [(13, zB (n_0.sure.null && (!n_1.sure.null)))] ?_ (fun K0_2' hK_2' => ?_)
 rotate_left
 ·refine WL.split (n_0.sure.null) (fun hb => ?_) (fun hb => ?_)
  ·have o_1' := o_2' hb
   refine WL.set 7 rfl (congrArg zB hb) ?_
   refine wv (OV.fieldAddr0 rfl adc) ?_
   refine wv (OV.load rfl (At.own 0 rfl) rfl j9) ?_
   refine WL.call (A := []) v6 rfl (u9 n_1) rfl trivial rfl rfl ?_
   refine WL.cv (CV.meth rfl o_1' rfl) rfl rfl rfl ?_
   refine wv (OV.not rfl) ?_
   refine wv (OV.pickT rfl rfl) ?_
   refine WL.set 13 rfl (bT (v := !n_1.sure.null) hb) ?_
   exact WL.end_ (kg hK_2')
  ·refine WL.set 7 rfl (congrArg zB hb) ?_
   refine wk ?_
   refine wk ?_
   refine wk ?_
   refine wk ?_
   refine wk ?_
   refine wv (OV.pickF rfl rfl) ?_
   refine WL.set 13 rfl (bF (v := !n_1.sure.null) hb) ?_
   exact WL.end_ (kg hK_2')
 refine wa ?_
 refine WL.nil ?_
 refine kg (hK_1' [(2, zB (n_0.sure.null && (!n_1.sure.null)))] _ ?_)
 refine b9 ?_
 exact hE.ret [] rfl rfl (.inl ⟨_, h, rfl⟩) (d8.of1 rfl (RV.tmp rfl))
theorem Tr.sure_size (x : Tr) : x.sure.size = x.size := by cases x <;> rfl
theorem Tr.sure_null (x : Tr) : x.sure.null = x.null := by cases x <;> rfl
theorem aqr (s : CS) : aan Tryd.prog (Tr.cls s).val "Size" [] (.int .i64 (((Tr.cls s).size : Nat) : Int)) :=
 ⟨_, _, _, rfl, by kernel_rfl, by kernel_rfl, by kernel_rfl, c8.one (aso s (fun v => v = ((Tr.size (.cls s) : Nat) : Int)) rfl)⟩
theorem abi {x : Tr} (h : x.isNone = false → aan Tryd.prog x.val "Size" [] (.int .i64 ((x.size : Nat) : Int))) : aan Tryd.prog x.sure.val "Size" [] (.int .i64 ((x.sure.size : Nat) : Int)) := by
 cases x <;> first | exact aqr cs0 | exact h rfl
theorem aa0 : ∀ x : Tr, x.isNone = false → x.size ≤ 4611686018427387904 → aan Tryd.prog x.val "Size" [] (.int .i64 ((x.size : Nat) : Int))
 | .none, h, _ => by cases h
 | .eps, _, _ => ⟨_, _, _, rfl, by kernel_rfl, by kernel_rfl, by kernel_rfl, c8.one (arc (fun v => v = ((Tr.size .eps : Nat) : Int)) rfl)⟩
 | .cls s, _, _ => aqr s
 | .cat a b, _, hb => ⟨_, _, _, rfl, by kernel_rfl, by kernel_rfl, by kernel_rfl, c8.one (aqy a b (fun v => v = ((Tr.size (.cat a b) : Nat) : Int)) (by
   simp only [Tr.size] at hb
   refine ⟨abi fun h => aa0 a h (by omega), ?_, abi fun h => aa0 b h (by omega), ?_, ?_⟩ <;> simp only [Tr.sure_size, Tr.size, I64] <;> omega))⟩
 | .alt a b, _, hb => ⟨_, _, _, rfl, by kernel_rfl, by kernel_rfl, by kernel_rfl, c8.one (ass a b (fun v => v = ((Tr.size (.alt a b) : Nat) : Int)) (by
   simp only [Tr.size] at hb
   refine ⟨abi fun h => aa0 a h (by omega), ?_, abi fun h => aa0 b h (by omega), ?_, ?_⟩ <;> simp only [Tr.sure_size, Tr.size, I64] <;> omega))⟩
 | .and a b, _, hb => ⟨_, _, _, rfl, by kernel_rfl, by kernel_rfl, by kernel_rfl, c8.one (ar1 a b (fun v => v = ((Tr.size (.and a b) : Nat) : Int)) (by
   simp only [Tr.size] at hb
   refine ⟨abi fun h => aa0 a h (by omega), ?_, abi fun h => aa0 b h (by omega), ?_, ?_⟩ <;> simp only [Tr.sure_size, Tr.size, I64] <;> omega))⟩
 | .minus a b, _, hb => ⟨_, _, _, rfl, by kernel_rfl, by kernel_rfl, by kernel_rfl, c8.one (an0 a b (fun v => v = ((Tr.size (.minus a b) : Nat) : Int)) (by
   simp only [Tr.size] at hb
   refine ⟨abi fun h => aa0 a h (by omega), ?_, abi fun h => aa0 b h (by omega), ?_, ?_⟩ <;> simp only [Tr.sure_size, Tr.size, I64] <;> omega))⟩
 | .star a, _, hb => ⟨_, _, _, rfl, by kernel_rfl, by kernel_rfl, by kernel_rfl, c8.one (apk a (fun v => v = ((Tr.size (.star a) : Nat) : Int)) (by
   simp only [Tr.size] at hb
   refine ⟨abi fun h => aa0 a h (by omega), ?_, ?_⟩ <;> simp only [Tr.sure_size, Tr.size, I64] <;> omega))⟩
theorem apy (s : CS) : aan Tryd.prog (Tr.cls s).val "Nullable" [] (.bool (Tr.cls s).null) :=
 ⟨_, _, _, rfl, by kernel_rfl, by kernel_rfl, by kernel_rfl, c8.one (asr s (fun v => v = (Tr.cls s).null) rfl)⟩
theorem abz {x : Tr} (h : x.isNone = false → aan Tryd.prog x.val "Nullable" [] (.bool x.null)) : aan Tryd.prog x.sure.val "Nullable" [] (.bool x.sure.null) := by
 cases x <;> first | exact apy cs0 | exact h rfl
theorem abj : ∀ x : Tr, x.isNone = false → aan Tryd.prog x.val "Nullable" [] (.bool x.null)
 | .none, h => by cases h
 | .eps, _ => ⟨_, _, _, rfl, by kernel_rfl, by kernel_rfl, by kernel_rfl, c8.one (asy (fun v => v = Tr.null .eps) rfl)⟩
 | .cls s, _ => apy s
 | .star a, _ => ⟨_, _, _, rfl, by kernel_rfl, by kernel_rfl, by kernel_rfl, c8.one (ap3 a (fun v => v = Tr.null (.star a)) rfl)⟩
 | .cat a b, _ => ⟨_, _, _, rfl, by kernel_rfl, by kernel_rfl, by kernel_rfl, c8.one (are a b (fun v => v = Tr.null (.cat a b)) ⟨abz fun h => abj a h, fun _ => abz fun h => abj b h, by simp only [Tr.sure_null, Tr.null]⟩)⟩
 | .alt a b, _ => ⟨_, _, _, rfl, by kernel_rfl, by kernel_rfl, by kernel_rfl, c8.one (aq8 a b (fun v => v = Tr.null (.alt a b)) ⟨abz fun h => abj a h, fun _ => abz fun h => abj b h, by simp only [Tr.sure_null, Tr.null]⟩)⟩
 | .and a b, _ => ⟨_, _, _, rfl, by kernel_rfl, by kernel_rfl, by kernel_rfl, c8.one (ar3 a b (fun v => v = Tr.null (.and a b)) ⟨abz fun h => abj a h, fun _ => abz fun h => abj b h, by simp only [Tr.sure_null, Tr.null]⟩)⟩
 | .minus a b, _ => ⟨_, _, _, rfl, by kernel_rfl, by kernel_rfl, by kernel_rfl, c8.one (an6 a b (fun v => v = Tr.null (.minus a b)) ⟨abz fun h => abj a h, fun _ => abz fun h => abj b h, by simp only [Tr.sure_null, Tr.null]⟩)⟩
def ai7 (need : Int) (K : (List UInt8) → Prop) : Prop :=
 ∃ (J0 : Prop),
  (∀ (_ : Unit), J0 →
   (if (decide (4 < need)) = true then
    (([40] : List UInt8).length + ([91, 93] : List UInt8).length ≤ 9223372036854775807) ∧
    ((([40] : List UInt8) ++ ([91, 93] : List UInt8)).length + ([41] : List UInt8).length ≤ 9223372036854775807) ∧
    K ((([40] : List UInt8) ++ ([91, 93] : List UInt8)) ++ ([41] : List UInt8))
   else
    K ([91, 93] : List UInt8))) ∧
  J0
theorem ao0 (te : TypeId) (fre : Nat × Nat) (need : Int) (K : (List UInt8) → Prop) (h : ai7 need K) :
  c8 Tryd.prog 51 [Tr.val Tr.none, zI need] [(1, .cells [zU 110, zU 10, zU 114, zU 13, zU 116, zU 9].toArray te fre)] [] (fun o => (∃ (v : List UInt8), K v ∧ o = .ret (st v) []) ∨ (False)) := by
 unfold ai7 at h
 refine c6 (n := 82) (L0 := [(0, Tr.val Tr.none), (1, zI need)]) Tryd.func51 rfl rfl rfl rfl (fun w0 M Q hE => ?_)
 refine a6 (fun _ hK => ?_)
 refine a4 ?_
 refine wa ?_
 refine WL.nil ?_
 refine kg (hK [(0, Tr.val Tr.none), (1, zI need)] _ ?_)
 refine a6 (fun _ hK_1' => ?_)
 refine a4 ?_
 refine wa ?_
 refine wa ?_
 refine WL.nil ?_
 refine kg (hK_1' [(0, Tr.val Tr.none), (1, zI need), (6, zI 4)] _ ?_)
 obtain ⟨J0, hJ, h⟩ := h
 refine m7 (X := Unit) (fun _ => J0) (fun _ => [(1, zI need), (5, st ([91, 93] : List UInt8)), (6, zI 4)]) (fun _ => []) ?_ (fun K0_11' hK_11' => ?_)
 ·rintro _ hj
  replace h := hJ () hj
  show WC _ _ _ _ [(1, zI need), (5, st ([91, 93] : List UInt8)), (6, zI 4)] []
  refine a6 (fun _ hK_12' => ?_)
  refine a6 (fun _ hK_13' => ?_)
  refine a4 ?_
  refine wm ?_
  refine wm ?_
  refine wv (OV.lss rfl rfl) ?_
  refine WL.nil ?_
  refine kg (hK_13' [(5, st ([91, 93] : List UInt8)), (77, zB (decide (4 < need)))] _ ?_)
  refine b5 (b := decide (4 < need)) rfl (fun hb => ?_) (fun hb => ?_)
  ·replace h := j4 h hb
   refine a6 (fun _ hK_14' => ?_)
   refine a4 ?_
   refine wm ?_
   obtain ⟨o, h⟩ := h
   refine wv (OV.cat rfl rfl o) ?_
   obtain ⟨o_1', h⟩ := h
   refine wv (OV.cat rfl rfl o_1') ?_
   refine wa ?_
   refine WL.nil ?_
   refine kg (hK_14' [(4, st ((([40] : List UInt8) ++ ([91, 93] : List UInt8)) ++ ([41] : List UInt8)))] _ ?_)
   refine b9 ?_
   exact hE.ret [] rfl rfl (.inl ⟨_, h, rfl⟩) (d8.of1 rfl (RV.tmp rfl))
  ·replace h := i9 h hb
   refine b7 ?_
   refine kg (hK_12' [(5, st ([91, 93] : List UInt8))] _ ?_)
   refine a6 (fun _ hK_15' => ?_)
   refine a4 ?_
   refine wm ?_
   refine wa ?_
   refine WL.nil ?_
   refine kg (hK_15' [(4, st ([91, 93] : List UInt8))] _ ?_)
   refine b9 ?_
   exact hE.ret [] rfl rfl (.inl ⟨_, h, rfl⟩) (d8.of1 rfl (RV.tmp rfl))
 ·skip
  refine a6 (fun _ hK_16' => ?_)
  refine a4 ?_
  refine wm ?_
  refine WL.nil ?_
  refine kg (hK_16' [(1, zI need), (6, zI 4), (15, Tr.val Tr.none)] _ ?_)
  refine g8 ?_
  refine a6 (fun _ hK_17' => ?_)
  refine a4 ?_
  refine wv (OV.assertNil rfl acy adi) ?_
  refine wv (OV.extract 1 rfl rfl) ?_
  refine wv (OV.extract 0 rfl rfl) ?_
  refine WL.nil ?_
  refine kg (hK_17' [(1, zI need), (6, zI 4), (15, Tr.val Tr.none), (17, zB false), (18, Value.agg [].toArray)] _ ?_)
  refine n6 rfl ?_
  refine a6 (fun _ hK_18' => ?_)
  refine a4 ?_
  refine wv (OV.assertNil rfl adp aeq) ?_
  refine wv (OV.extract 1 rfl rfl) ?_
  refine wv (OV.extract 0 rfl rfl) ?_
  refine WL.nil ?_
  refine kg (hK_18' [(1, zI need), (6, zI 4), (15, Tr.val Tr.none), (20, zB false), (21, Value.agg (wl cs0).toArray)] _ ?_)
  refine n6 rfl ?_
  refine a6 (fun _ hK_19' => ?_)
  refine a4 ?_
  refine wv (OV.assertNil rfl ac4 aen) ?_
  refine wv (OV.extract 1 rfl rfl) ?_
  refine wv (OV.extract 0 rfl rfl) ?_
  refine WL.nil ?_
  refine kg (hK_19' [(1, zI need), (6, zI 4), (15, Tr.val Tr.none), (26, zB false), (27, Value.agg [Tr.val Tr.none, Tr.val Tr.none].toArray)] _ ?_)
  refine n6 rfl ?_
  refine a6 (fun _ hK_20' => ?_)
  refine a4 ?_
  refine wv (OV.assertNil rfl aeh af2) ?_
  refine wv (OV.extract 1 rfl rfl) ?_
  refine wv (OV.extract 0 rfl rfl) ?_
  refine WL.nil ?_
  refine kg (hK_20' [(1, zI need), (6, zI 4), (15, Tr.val Tr.none), (37, zB false), (38, Value.agg [Tr.val Tr.none, Tr.val Tr.none].toArray)] _ ?_)
  refine n6 rfl ?_
  refine a6 (fun _ hK_21' => ?_)
  refine a4 ?_
  refine wv (OV.assertNil rfl agb air) ?_
  refine wv (OV.extract 1 rfl rfl) ?_
  refine wv (OV.extract 0 rfl rfl) ?_
  refine WL.nil ?_
  refine kg (hK_21' [(1, zI need), (6, zI 4), (15, Tr.val Tr.none), (48, zB false), (49, Value.agg [Tr.val Tr.none, Tr.val Tr.none].toArray)] _ ?_)
  refine n6 rfl ?_
  refine a6 (fun _ hK_22' => ?_)
  refine a4 ?_
  refine wv (OV.assertNil rfl aj3 app) ?_
  refine wv (OV.extract 1 rfl rfl) ?_
  refine wv (OV.extract 0 rfl rfl) ?_
  refine WL.nil ?_
  refine kg (hK_22' [(1, zI need), (6, zI 4), (15, Tr.val Tr.none), (59, zB false), (60, Value.agg [Tr.val Tr.none, Tr.val Tr.none].toArray)] _ ?_)
  refine n6 rfl ?_
  refine a6 (fun _ hK_23' => ?_)
  refine a4 ?_
  refine wv (OV.assertNil rfl anj at6) ?_
  refine wv (OV.extract 1 rfl rfl) ?_
  refine wv (OV.extract 0 rfl rfl) ?_
  refine WL.nil ?_
  refine kg (hK_23' [(1, zI need), (6, zI 4), (15, Tr.val Tr.none), (69, zB false), (70, Value.agg [Tr.val Tr.none].toArray)] _ ?_)
  refine n6 rfl ?_
  refine a6 (fun _ hK_24' => ?_)
  refine a4 ?_
  refine wa ?_
  refine WL.nil ?_
  refine kg (hK_24' [(1, zI need), (6, zI 4)] _ ?_)
  refine a4 ?_
  refine wa ?_
  refine WL.nil ?_
  exact kh (hK_11' () h) []
def ak7 (need : Int) (K : (List UInt8) → Prop) : Prop :=
 ∃ (J0 : Prop),
  (∀ (_ : Unit), J0 →
   (if (decide (4 < need)) = true then
    (([40] : List UInt8).length + ([40, 41] : List UInt8).length ≤ 9223372036854775807) ∧
    ((([40] : List UInt8) ++ ([40, 41] : List UInt8)).length + ([41] : List UInt8).length ≤ 9223372036854775807) ∧
    K ((([40] : List UInt8) ++ ([40, 41] : List UInt8)) ++ ([41] : List UInt8))
   else
    K ([40, 41] : List UInt8))) ∧
  J0
theorem ate (te : TypeId) (fre : Nat × Nat) (need : Int) (K : (List UInt8) → Prop) (h : ak7 need K) :
  c8 Tryd.prog 51 [Tr.val .eps, zI need] [(1, .cells [zU 110, zU 10, zU 114, zU 13, zU 116, zU 9].toArray te fre)] [] (fun o => (∃ (v : List UInt8), K v ∧ o = .ret (st v) []) ∨ (False)) := by
 unfold ak7 at h
 refine c6 (n := 82) (L0 := [(0, Tr.val .eps), (1, zI need)]) Tryd.func51 rfl rfl rfl rfl (fun w0 M Q hE => ?_)
 refine a6 (fun _ hK => ?_)
 refine a4 ?_
 refine wa ?_
 refine WL.nil ?_
 refine kg (hK [(0, Tr.val .eps), (1, zI need)] _ ?_)
 refine a6 (fun _ hK_1' => ?_)
 refine a4 ?_
 refine wa ?_
 refine wa ?_
 refine WL.nil ?_
 refine kg (hK_1' [(0, Tr.val .eps), (1, zI need), (6, zI 4)] _ ?_)
 obtain ⟨J0, hJ, h⟩ := h
 refine m7 (X := Unit) (fun _ => J0) (fun _ => [(1, zI need), (5, st ([40, 41] : List UInt8)), (6, zI 4)]) (fun _ => []) ?_ (fun K0_5' hK_5' => ?_)
 ·rintro _ hj
  replace h := hJ () hj
  show WC _ _ _ _ [(1, zI need), (5, st ([40, 41] : List UInt8)), (6, zI 4)] []
  refine a6 (fun _ hK_6' => ?_)
  refine a6 (fun _ hK_7' => ?_)
  refine a4 ?_
  refine wm ?_
  refine wm ?_
  refine wv (OV.lss rfl rfl) ?_
  refine WL.nil ?_
  refine kg (hK_7' [(5, st ([40, 41] : List UInt8)), (77, zB (decide (4 < need)))] _ ?_)
  refine b5 (b := decide (4 < need)) rfl (fun hb => ?_) (fun hb => ?_)
  ·replace h := j4 h hb
   refine a6 (fun _ hK_8' => ?_)
   refine a4 ?_
   refine wm ?_
   obtain ⟨o, h⟩ := h
   refine wv (OV.cat rfl rfl o) ?_
   obtain ⟨o_1', h⟩ := h
   refine wv (OV.cat rfl rfl o_1') ?_
   refine wa ?_
   refine WL.nil ?_
   refine kg (hK_8' [(4, st ((([40] : List UInt8) ++ ([40, 41] : List UInt8)) ++ ([41] : List UInt8)))] _ ?_)
   refine b9 ?_
   exact hE.ret [] rfl rfl (.inl ⟨_, h, rfl⟩) (d8.of1 rfl (RV.tmp rfl))
  ·replace h := i9 h hb
   refine b7 ?_
   refine kg (hK_6' [(5, st ([40, 41] : List UInt8))] _ ?_)
   refine a6 (fun _ hK_9' => ?_)
   refine a4 ?_
   refine wm ?_
   refine wa ?_
   refine WL.nil ?_
   refine kg (hK_9' [(4, st ([40, 41] : List UInt8))] _ ?_)
   refine b9 ?_
   exact hE.ret [] rfl rfl (.inl ⟨_, h, rfl⟩) (d8.of1 rfl (RV.tmp rfl))
 ·skip
  refine a6 (fun _ hK_10' => ?_)
  refine a4 ?_
  refine wm ?_
  refine WL.nil ?_
  refine kg (hK_10' [(1, zI need), (6, zI 4), (15, Tr.val .eps)] _ ?_)
  refine g8 ?_
  refine a6 (fun _ hK_11' => ?_)
  refine a4 ?_
  refine wv (OV.assertYes (t' := 49) (v := Value.agg [].toArray) rfl acy) ?_
  refine wv (OV.extract 1 rfl rfl) ?_
  refine wv (OV.extract 0 rfl rfl) ?_
  refine WL.nil ?_
  refine kg (hK_11' [(1, zI need), (6, zI 4), (15, Tr.val .eps), (17, zB true), (18, Value.agg [].toArray)] _ ?_)
  refine aai rfl ?_
  refine a6 (fun _ hK_12' => ?_)
  refine a4 ?_
  refine WL.make (MV.alloc asw) rfl rfl rfl (fun b_1' => ?_)
  refine WL.store (vs := []) (cs' := []) 0 rfl rfl rfl rfl asl (Nat.le_of_ble_eq_true rfl) rfl rfl rfl ?_
  refine WL.nil ?_
  refine kg (hK_12' [(1, zI need), (6, zI 4)] _ ?_)
  refine a4 ?_
  refine wa ?_
  refine WL.nil ?_
  exact kh (hK_5' () h) []
def aj2 (xs : CS) (need : Int) (K : (List UInt8) → Prop) : Prop :=
 ∃ (J0 : Prop),
  (∀ (_ : Unit), J0 →
   (if (decide (4 < need)) = true then
    (([40] : List UInt8).length + (x8 xs).length ≤ 9223372036854775807) ∧
    ((([40] : List UInt8) ++ (x8 xs)).length + ([41] : List UInt8).length ≤ 9223372036854775807) ∧
    K ((([40] : List UInt8) ++ (x8 xs)) ++ ([41] : List UInt8))
   else
    K (x8 xs))) ∧
  J0
theorem asi (te : TypeId) (fre : Nat × Nat) (xs : CS) (need : Int) (K : (List UInt8) → Prop) (h : aj2 xs need K) :
  c8 Tryd.prog 51 [Tr.val (.cls xs), zI need] [(1, .cells [zU 110, zU 10, zU 114, zU 13, zU 116, zU 9].toArray te fre)] [] (fun o => (∃ (v : List UInt8), K v ∧ o = .ret (st v) []) ∨ (False)) := by
 unfold aj2 at h
 refine c6 (n := 82) (L0 := [(0, Tr.val (.cls xs)), (1, zI need)]) Tryd.func51 rfl rfl rfl rfl (fun w0 M Q hE => ?_)
 refine a6 (fun _ hK => ?_)
 refine a4 ?_
 refine wa ?_
 refine WL.nil ?_
 refine kg (hK [(0, Tr.val (.cls xs)), (1, zI need)] _ ?_)
 refine a6 (fun _ hK_1' => ?_)
 refine a4 ?_
 refine wa ?_
 refine wa ?_
 refine WL.nil ?_
 refine kg (hK_1' [(0, Tr.val (.cls xs)), (1, zI need), (6, zI 4)] _ ?_)
 obtain ⟨J0, hJ, h⟩ := h
 refine m7 (X := Unit) (fun _ => J0) (fun _ => [(1, zI need), (5, st (x8 xs)), (6, zI 4)]) (fun _ => []) ?_ (fun K0_6' hK_6' => ?_)
 ·rintro _ hj
  replace h := hJ () hj
  show WC _ _ _ _ [(1, zI need), (5, st (x8 xs)), (6, zI 4)] []
  refine a6 (fun _ hK_7' => ?_)
  refine a6 (fun _ hK_8' => ?_)
  refine a4 ?_
  refine wm ?_
  refine wm ?_
  refine wv (OV.lss rfl rfl) ?_
  refine WL.nil ?_
  refine kg (hK_8' [(5, st (x8 xs)), (77, zB (decide (4 < need)))] _ ?_)
  refine b5 (b := decide (4 < need)) rfl (fun hb => ?_) (fun hb => ?_)
  ·replace h := j4 h hb
   refine a6 (fun _ hK_9' => ?_)
   refine a4 ?_
   refine wm ?_
   obtain ⟨o, h⟩ := h
   refine wv (OV.cat rfl rfl o) ?_
   obtain ⟨o_1', h⟩ := h
   refine wv (OV.cat rfl rfl o_1') ?_
   refine wa ?_
   refine WL.nil ?_
   refine kg (hK_9' [(4, st ((([40] : List UInt8) ++ (x8 xs)) ++ ([41] : List UInt8)))] _ ?_)
   refine b9 ?_
   exact hE.ret [] rfl rfl (.inl ⟨_, h, rfl⟩) (d8.of1 rfl (RV.tmp rfl))
  ·replace h := i9 h hb
   refine b7 ?_
   refine kg (hK_7' [(5, st (x8 xs))] _ ?_)
   refine a6 (fun _ hK_10' => ?_)
   refine a4 ?_
   refine wm ?_
   refine wa ?_
   refine WL.nil ?_
   refine kg (hK_10' [(4, st (x8 xs))] _ ?_)
   refine b9 ?_
   exact hE.ret [] rfl rfl (.inl ⟨_, h, rfl⟩) (d8.of1 rfl (RV.tmp rfl))
 ·skip
  refine a6 (fun _ hK_11' => ?_)
  refine a4 ?_
  refine wm ?_
  refine WL.nil ?_
  refine kg (hK_11' [(1, zI need), (6, zI 4), (15, Tr.val (.cls xs))] _ ?_)
  refine g8 ?_
  refine a6 (fun _ hK_12' => ?_)
  refine a4 ?_
  refine wv (OV.assertNo (t2 := 87) (v := Value.agg (wl xs).toArray) rfl acy adi rfl) ?_
  refine wv (OV.extract 1 rfl rfl) ?_
  refine wv (OV.extract 0 rfl rfl) ?_
  refine WL.nil ?_
  refine kg (hK_12' [(1, zI need), (6, zI 4), (15, Tr.val (.cls xs)), (17, zB false), (18, Value.agg [].toArray)] _ ?_)
  refine n6 rfl ?_
  refine a6 (fun _ hK_13' => ?_)
  refine a4 ?_
  refine wv (OV.assertYes (t' := 87) (v := Value.agg (wl xs).toArray) rfl adp) ?_
  refine wv (OV.extract 1 rfl rfl) ?_
  refine wv (OV.extract 0 rfl rfl) ?_
  refine WL.nil ?_
  refine kg (hK_13' [(1, zI need), (6, zI 4), (15, Tr.val (.cls xs)), (20, zB true), (21, Value.agg (wl xs).toArray)] _ ?_)
  refine aai rfl ?_
  refine a6 (fun _ hK_14' => ?_)
  refine a4 ?_
  refine WL.make (MV.alloc asd) rfl rfl rfl (fun b_1' => ?_)
  refine WL.storeW (vs := wl xs) 0 rfl rfl rfl rfl rfl asu rfl rfl rfl ?_
  refine WL.nil ?_
  refine kg (hK_14' [(1, zI need), (6, zI 4), (8, zP b_1')] _ ?_)
  refine a4 ?_
  refine wv (OV.fieldAddr0 rfl al8) ?_
  refine wv (OV.loadR rfl (At.own 0 rfl) y3) ?_
  refine WL.call (A := []) at5 rfl (c8.ofPureE te fre (at4 xs)) rfl ⟨.inr (List.mem_of_getElem? (i := 0) rfl), trivial⟩ rfl rfl ?_
  refine wa ?_
  refine WL.nil ?_
  exact kh (hK_6' () h) []
def aj9 (te : TypeId) (fre : Nat × Nat) (xa : Tr) (xb : Tr) (need : Int) (K : (List UInt8) → Prop) : Prop :=
 ∃ (J0 : Prop),
  (∀ (_ : Unit), J0 →
   (if (decide (2 < need)) = true then
    (([40] : List UInt8).length + ((b8 xa 2) ++ (b8 xb 3)).length ≤ 9223372036854775807) ∧
    ((([40] : List UInt8) ++ ((b8 xa 2) ++ (b8 xb 3))).length + ([41] : List UInt8).length ≤ 9223372036854775807) ∧
    K ((([40] : List UInt8) ++ ((b8 xa 2) ++ (b8 xb 3))) ++ ([41] : List UInt8))
   else
    K ((b8 xa 2) ++ (b8 xb 3)))) ∧
  (c8 Tryd.prog 51 [Tr.val xa, zI 2] (z6 te fre) [] (Ret (st (b8 xa 2)) [])) ∧
  (c8 Tryd.prog 51 [Tr.val xb, zI 3] (z6 te fre) [] (Ret (st (b8 xb 3)) [])) ∧
  ((b8 xa 2).length + (b8 xb 3).length ≤ 9223372036854775807) ∧
  J0
theorem ari (te : TypeId) (fre : Nat × Nat) (xa : Tr) (xb : Tr) (need : Int) (K : (List UInt8) → Prop) (h : aj9 te fre xa xb need K) :
  c8 Tryd.prog 51 [Tr.val (.cat xa xb), zI need] [(1, .cells [zU 110, zU 10, zU 114, zU 13, zU 116, zU 9].toArray te fre)] [] (fun o => (∃ (v : List UInt8), K v ∧ o = .ret (st v) []) ∨ (False)) := by
 unfold aj9 at h
 refine c6 (n := 82) (L0 := [(0, Tr.val (.cat xa xb)), (1, zI need)]) Tryd.func51 rfl rfl rfl rfl (fun w0 M Q hE => ?_)
 refine a6 (fun _ hK => ?_)
 refine a4 ?_
 refine wa ?_
 refine WL.nil ?_
 refine kg (hK [(0, Tr.val (.cat xa xb)), (1, zI need)] _ ?_)
 refine a6 (fun _ hK_1' => ?_)
 refine a4 ?_
 refine wa ?_
 refine wa ?_
 refine WL.nil ?_
 refine kg (hK_1' [(0, Tr.val (.cat xa xb)), (1, zI need), (6, zI 4)] _ ?_)
 obtain ⟨J0, hJ, h⟩ := h
 refine m7 (X := Unit) (fun _ => J0) (fun _ => [(1, zI need), (5, st ((b8 xa 2) ++ (b8 xb 3))), (6, zI 2)]) (fun _ => []) ?_ (fun K0_10' hK_10' => ?_)
 ·rintro _ hj
  replace h := hJ () hj
  show WC _ _ _ _ [(1, zI need), (5, st ((b8 xa 2) ++ (b8 xb 3))), (6, zI 2)] []
  refine a6 (fun _ hK_11' => ?_)
  refine a6 (fun _ hK_12' => ?_)
  refine a4 ?_
  refine wm ?_
  refine wm ?_
  refine wv (OV.lss rfl rfl) ?_
  refine WL.nil ?_
  refine kg (hK_12' [(5, st ((b8 xa 2) ++ (b8 xb 3))), (77, zB (decide (2 < need)))] _ ?_)
  refine b5 (b := decide (2 < need)) rfl (fun hb => ?_) (fun hb => ?_)
  ·replace h := j4 h hb
   refine a6 (fun _ hK_13' => ?_)
   refine a4 ?_
   refine wm ?_
   obtain ⟨o_3', h⟩ := h
   refine wv (OV.cat rfl rfl o_3') ?_
   obtain ⟨o_4', h⟩ := h
   refine wv (OV.cat rfl rfl o_4') ?_
   refine wa ?_
   refine WL.nil ?_
   refine kg (hK_13' [(4, st ((([40] : List UInt8) ++ ((b8 xa 2) ++ (b8 xb 3))) ++ ([41] : List UInt8)))] _ ?_)
   refine b9 ?_
   exact hE.ret [] rfl rfl (.inl ⟨_, h, rfl⟩) (d8.of1 rfl (RV.tmp rfl))
  ·replace h := i9 h hb
   refine b7 ?_
   refine kg (hK_11' [(5, st ((b8 xa 2) ++ (b8 xb 3)))] _ ?_)
   refine a6 (fun _ hK_14' => ?_)
   refine a4 ?_
   refine wm ?_
   refine wa ?_
   refine WL.nil ?_
   refine kg (hK_14' [(4, st ((b8 xa 2) ++ (b8 xb 3)))] _ ?_)
   refine b9 ?_
   exact hE.ret [] rfl rfl (.inl ⟨_, h, rfl⟩) (d8.of1 rfl (RV.tmp rfl))
 ·skip
  refine a6 (fun _ hK_15' => ?_)
  refine a4 ?_
  refine wm ?_
  refine WL.nil ?_
  refine kg (hK_15' [(1, zI need), (6, zI 4), (15, Tr.val (.cat xa xb))] _ ?_)
  refine g8 ?_
  refine a6 (fun _ hK_16' => ?_)
  refine a4 ?_
  refine wv (OV.assertNo (t2 := 51) (v := Value.agg [Tr.val xa, Tr.val xb].toArray) rfl acy adi rfl) ?_
  refine wv (OV.extract 1 rfl rfl) ?_
  refine wv (OV.extract 0 rfl rfl) ?_
  refine WL.nil ?_
  refine kg (hK_16' [(1, zI need), (6, zI 4), (15, Tr.val (.cat xa xb)), (17, zB false), (18, Value.agg [].toArray)] _ ?_)
  refine n6 rfl ?_
  refine a6 (fun _ hK_17' => ?_)
  refine a4 ?_
  refine wv (OV.assertNo (t2 := 51) (v := Value.agg [Tr.val xa, Tr.val xb].toArray) rfl adp aeq rfl) ?_
  refine wv (OV.extract 1 rfl rfl) ?_
  refine wv (OV.extract 0 rfl rfl) ?_
  refine WL.nil ?_
  refine kg (hK_17' [(1, zI need), (6, zI 4), (15, Tr.val (.cat xa xb)), (20, zB false), (21, Value.agg (wl cs0).toArray)] _ ?_)
  refine n6 rfl ?_
  refine a6 (fun _ hK_18' => ?_)
  refine a4 ?_
  refine wv (OV.assertNo (t2 := 51) (v := Value.agg [Tr.val xa, Tr.val xb].toArray) rfl ac4 aen rfl) ?_
  refine wv (OV.extract 1 rfl rfl) ?_
  refine wv (OV.extract 0 rfl rfl) ?_
  refine WL.nil ?_
  refine kg (hK_18' [(1, zI need), (6, zI 4), (15, Tr.val (.cat xa xb)), (26, zB false), (27, Value.agg [Tr.val Tr.none, Tr.val Tr.none].toArray)] _ ?_)
  refine n6 rfl ?_
  refine a6 (fun _ hK_19' => ?_)
  refine a4 ?_
  refine wv (OV.assertNo (t2 := 51) (v := Value.agg [Tr.val xa, Tr.val xb].toArray) rfl aeh af2 rfl) ?_
  refine wv (OV.extract 1 rfl rfl) ?_
  refine wv (OV.extract 0 rfl rfl) ?_
  refine WL.nil ?_
  refine kg (hK_19' [(1, zI need), (6, zI 4), (15, Tr.val (.cat xa xb)), (37, zB false), (38, Value.agg [Tr.val Tr.none, Tr.val Tr.none].toArray)] _ ?_)
  refine n6 rfl ?_
  refine a6 (fun _ hK_20' => ?_)
  refine a4 ?_
  refine wv (OV.assertNo (t2 := 51) (v := Value.agg [Tr.val xa, Tr.val xb].toArray) rfl agb air rfl) ?_
  refine wv (OV.extract 1 rfl rfl) ?_
  refine wv (OV.extract 0 rfl rfl) ?_
  refine WL.nil ?_
  refine kg (hK_20' [(1, zI need), (6, zI 4), (15, Tr.val (.cat xa xb)), (48, zB false), (49, Value.agg [Tr.val Tr.none, Tr.val Tr.none].toArray)] _ ?_)
  refine n6 rfl ?_
  refine a6 (fun _ hK_21' => ?_)
  refine a4 ?_
  refine wv (OV.assertYes (t' := 51) (v := Value.agg [Tr.val xa, Tr.val xb].toArray) rfl aj3) ?_
  refine wv (OV.extract 1 rfl rfl) ?_
  refine wv (OV.extract 0 rfl rfl) ?_
  refine WL.nil ?_
  refine kg (hK_21' [(1, zI need), (6, zI 4), (15, Tr.val (.cat xa xb)), (59, zB true), (60, Value.agg [Tr.val xa, Tr.val xb].toArray)] _ ?_)
  refine aai rfl ?_
  refine a6 (fun _ hK_22' => ?_)
  refine a4 ?_
  refine WL.make (MV.alloc ar0) rfl rfl rfl (fun b_1' => ?_)
  refine WL.storeW (vs := [Tr.val xa, Tr.val xb]) 0 rfl rfl rfl rfl rfl asq rfl (c9 (Tr.val_one _) (c9 (Tr.val_one _) m6)) rfl ?_
  refine WL.nil ?_
  refine kg (hK_22' [(1, zI need), (12, zP b_1')] _ ?_)
  refine n9 5 [] f0 (by kernel_rfl) rfl (fun T_1' hT_1' => ?_)
  refine fv (fun _ => OV.fieldAddr0 rfl ad5) ?_
  refine fv (fun _ => OV.load rfl (At.own 0 rfl) rfl j9) ?_
  obtain ⟨o_5', h⟩ := h
  refine FL.call aaz (fun _ => rfl) (o_5') ⟨.inr (List.mem_of_getElem? (i := 0) rfl), trivial⟩ rfl (fun _ => rfl) rfl ?_
  refine fv (fun _ => OV.fieldAddr0 rfl ad6) ?_
  refine fv (fun _ => OV.load rfl (At.own 0 rfl) rfl j9) ?_
  refine FL.weak (L' := fun γ => [(1, zI need), (63, st (b8 xa 2)), (65, Tr.val xb)]) (fun γ => ⟨rfl, rfl, rfl, trivial⟩) (FL.nil (hT_1' (fun γ => [(1, zI need), (63, st (b8 xa 2)), (65, Tr.val xb)]) (fun γ => ?_)))
  obtain ⟨o_6', h⟩ := h
  refine WL.call (A := []) aaz rfl (o_6') rfl ⟨.inr (List.mem_of_getElem? (i := 0) rfl), trivial⟩ rfl rfl ?_
  obtain ⟨o_7', h⟩ := h
  refine wv (OV.cat rfl rfl o_7') ?_
  refine wa ?_
  refine wa ?_
  refine WL.nil ?_
  exact kh (hK_10' () h) []
def alg (te : TypeId) (fre : Nat × Nat) (xa : Tr) (xb : Tr) (need : Int) (K : (List UInt8) → Prop) : Prop :=
 ∃ (J0 : Prop),
  (∀ (_ : Unit), J0 →
   (if (decide (0 < need)) = true then
    (([40] : List UInt8).length + (((b8 xa 0) ++ ([124] : List UInt8)) ++ (b8 xb 1)).length ≤ 9223372036854775807) ∧
    ((([40] : List UInt8) ++ (((b8 xa 0) ++ ([124] : List UInt8)) ++ (b8 xb 1))).length + ([41] : List UInt8).length ≤ 9223372036854775807) ∧
    K ((([40] : List UInt8) ++ (((b8 xa 0) ++ ([124] : List UInt8)) ++ (b8 xb 1))) ++ ([41] : List UInt8))
   else
    K (((b8 xa 0) ++ ([124] : List UInt8)) ++ (b8 xb 1)))) ∧
  (c8 Tryd.prog 51 [Tr.val xa, zI 0] (z6 te fre) [] (Ret (st (b8 xa 0)) [])) ∧
  ((b8 xa 0).length + ([124] : List UInt8).length ≤ 9223372036854775807) ∧
  (c8 Tryd.prog 51 [Tr.val xb, zI 1] (z6 te fre) [] (Ret (st (b8 xb 1)) [])) ∧
  (((b8 xa 0) ++ ([124] : List UInt8)).length + (b8 xb 1).length ≤ 9223372036854775807) ∧
  J0
theorem as4 (te : TypeId) (fre : Nat × Nat) (xa : Tr) (xb : Tr) (need : Int) (K : (List UInt8) → Prop) (h : alg te fre xa xb need K) :
  c8 Tryd.prog 51 [Tr.val (.alt xa xb), zI need] [(1, .cells [zU 110, zU 10, zU 114, zU 13, zU 116, zU 9].toArray te fre)] [] (fun o => (∃ (v : List UInt8), K v ∧ o = .ret (st v) []) ∨ (False)) := by
 unfold alg at h
 refine c6 (n := 82) (L0 := [(0, Tr.val (.alt xa xb)), (1, zI need)]) Tryd.func51 rfl rfl rfl rfl (fun w0 M Q hE => ?_)
 refine a6 (fun _ hK => ?_)
 refine a4 ?_
 refine wa ?_
 refine WL.nil ?_
 refine kg (hK [(0, Tr.val (.alt xa xb)), (1, zI need)] _ ?_)
 refine a6 (fun _ hK_1' => ?_)
 refine a4 ?_
 refine wa ?_
 refine wa ?_
 refine WL.nil ?_
 refine kg (hK_1' [(0, Tr.val (.alt xa xb)), (1, zI need), (6, zI 4)] _ ?_)
 obtain ⟨J0, hJ, h⟩ := h
 refine m7 (X := Unit) (fun _ => J0) (fun _ => [(1, zI need), (5, st (((b8 xa 0) ++ ([124] : List UInt8)) ++ (b8 xb 1))), (6, zI 0)]) (fun _ => []) ?_ (fun K0_7' hK_7' => ?_)
 ·rintro _ hj
  replace h := hJ () hj
  show WC _ _ _ _ [(1, zI need), (5, st (((b8 xa 0) ++ ([124] : List UInt8)) ++ (b8 xb 1))), (6, zI 0)] []
  refine a6 (fun _ hK_8' => ?_)
  refine a6 (fun _ hK_9' => ?_)
  refine a4 ?_
  refine wm ?_
  refine wm ?_
  refine wv (OV.lss rfl rfl) ?_
  refine WL.nil ?_
  refine kg (hK_9' [(5, st (((b8 xa 0) ++ ([124] : List UInt8)) ++ (b8 xb 1))), (77, zB (decide (0 < need)))] _ ?_)
  refine b5 (b := decide (0 < need)) rfl (fun hb => ?_) (fun hb => ?_)
  ·replace h := j4 h hb
   refine a6 (fun _ hK_10' => ?_)
   refine a4 ?_
   refine wm ?_
   obtain ⟨o_4', h⟩ := h
   refine wv (OV.cat rfl rfl o_4') ?_
   obtain ⟨o_5', h⟩ := h
   refine wv (OV.cat rfl rfl o_5') ?_
   refine wa ?_
   refine WL.nil ?_
   refine kg (hK_10' [(4, st ((([40] : List UInt8) ++ (((b8 xa 0) ++ ([124] : List UInt8)) ++ (b8 xb 1))) ++ ([41] : List UInt8)))] _ ?_)
   refine b9 ?_
   exact hE.ret [] rfl rfl (.inl ⟨_, h, rfl⟩) (d8.of1 rfl (RV.tmp rfl))
  ·replace h := i9 h hb
   refine b7 ?_
   refine kg (hK_8' [(5, st (((b8 xa 0) ++ ([124] : List UInt8)) ++ (b8 xb 1)))] _ ?_)
   refine a6 (fun _ hK_11' => ?_)
   refine a4 ?_
   refine wm ?_
   refine wa ?_
   refine WL.nil ?_
   refine kg (hK_11' [(4, st (((b8 xa 0) ++ ([124] : List UInt8)) ++ (b8 xb 1)))] _ ?_)
   refine b9 ?_
   exact hE.ret [] rfl rfl (.inl ⟨_, h, rfl⟩) (d8.of1 rfl (RV.tmp rfl))
 ·skip
  refine a6 (fun _ hK_12' => ?_)
  refine a4 ?_
  refine wm ?_
  refine WL.nil ?_
  refine kg (hK_12' [(1, zI need), (6, zI 4), (15, Tr.val (.alt xa xb))] _ ?_)
  refine g8 ?_
  refine a6 (fun _ hK_13' => ?_)
  refine a4 ?_
  refine wv (OV.assertNo (t2 := 165) (v := Value.agg [Tr.val xa, Tr.val xb].toArray) rfl acy adi rfl) ?_
  refine wv (OV.extract 1 rfl rfl) ?_
  refine wv (OV.extract 0 rfl rfl) ?_
  refine WL.nil ?_
  refine kg (hK_13' [(1, zI need), (6, zI 4), (15, Tr.val (.alt xa xb)), (17, zB false), (18, Value.agg [].toArray)] _ ?_)
  refine n6 rfl ?_
  refine a6 (fun _ hK_14' => ?_)
  refine a4 ?_
  refine wv (OV.assertNo (t2 := 165) (v := Value.agg [Tr.val xa, Tr.val xb].toArray) rfl adp aeq rfl) ?_
  refine wv (OV.extract 1 rfl rfl) ?_
  refine wv (OV.extract 0 rfl rfl) ?_
  refine WL.nil ?_
  refine kg (hK_14' [(1, zI need), (6, zI 4), (15, Tr.val (.alt xa xb)), (20, zB false), (21, Value.agg (wl cs0).toArray)] _ ?_)
  refine n6 rfl ?_
  refine a6 (fun _ hK_15' => ?_)
  refine a4 ?_
  refine wv (OV.assertYes (t' := 165) (v := Value.agg [Tr.val xa, Tr.val xb].toArray) rfl ac4) ?_
  refine wv (OV.extract 1 rfl rfl) ?_
  refine wv (OV.extract 0 rfl rfl) ?_
  refine WL.nil ?_
  refine kg (hK_15' [(1, zI need), (6, zI 4), (15, Tr.val (.alt xa xb)), (26, zB true), (27, Value.agg [Tr.val xa, Tr.val xb].toArray)] _ ?_)
  refine aai rfl ?_
  refine a6 (fun _ hK_16' => ?_)
  refine a4 ?_
  refine WL.make (MV.alloc aqv) rfl rfl rfl (fun b_1' => ?_)
  refine WL.storeW (vs := [Tr.val xa, Tr.val xb]) 0 rfl rfl rfl rfl rfl apw rfl (c9 (Tr.val_one _) (c9 (Tr.val_one _) m6)) rfl ?_
  refine WL.nil ?_
  refine kg (hK_16' [(1, zI need), (9, zP b_1')] _ ?_)
  refine n9 7 [] f0 (by kernel_rfl) rfl (fun T_1' hT_1' => ?_)
  refine fv (fun _ => OV.fieldAddr0 rfl ada) ?_
  refine fv (fun _ => OV.load rfl (At.own 0 rfl) rfl j9) ?_
  obtain ⟨o_6', h⟩ := h
  refine FL.call aaz (fun _ => rfl) (o_6') ⟨.inr (List.mem_of_getElem? (i := 0) rfl), trivial⟩ rfl (fun _ => rfl) rfl ?_
  obtain ⟨o_7', h⟩ := h
  refine fv (fun _ => OV.cat rfl rfl o_7') ?_
  refine fv (fun _ => OV.fieldAddr0 rfl ade) ?_
  refine fv (fun _ => OV.load rfl (At.own 0 rfl) rfl j9) ?_
  obtain ⟨o_8', h⟩ := h
  refine FL.call aaz (fun _ => rfl) (o_8') ⟨.inr (List.mem_of_getElem? (i := 0) rfl), trivial⟩ rfl (fun _ => rfl) rfl ?_
  refine FL.weak (L' := fun γ => [(1, zI need), (31, st ((b8 xa 0) ++ ([124] : List UInt8))), (34, st (b8 xb 1))]) (fun γ => ⟨rfl, rfl, rfl, trivial⟩) (FL.nil (hT_1' (fun γ => [(1, zI need), (31, st ((b8 xa 0) ++ ([124] : List UInt8))), (34, st (b8 xb 1))]) (fun γ => ?_)))
  obtain ⟨o_9', h⟩ := h
  refine wv (OV.cat rfl rfl o_9') ?_
  refine wa ?_
  refine wa ?_
  refine WL.nil ?_
  exact kh (hK_7' () h) []
def aiy (te : TypeId) (fre : Nat × Nat) (xa : Tr) (need : Int) (K : (List UInt8) → Prop) : Prop :=
 ∃ (J0 : Prop),
  (∀ (_ : Unit), J0 →
   (if (decide (3 < need)) = true then
    (([40] : List UInt8).length + ((b8 xa 3) ++ ([42] : List UInt8)).length ≤ 9223372036854775807) ∧
    ((([40] : List UInt8) ++ ((b8 xa 3) ++ ([42] : List UInt8))).length + ([41] : List UInt8).length ≤ 9223372036854775807) ∧
    K ((([40] : List UInt8) ++ ((b8 xa 3) ++ ([42] : List UInt8))) ++ ([41] : List UInt8))
   else
    K ((b8 xa 3) ++ ([42] : List UInt8)))) ∧
  (c8 Tryd.prog 51 [Tr.val xa, zI 3] (z6 te fre) [] (Ret (st (b8 xa 3)) [])) ∧
  ((b8 xa 3).length + ([42] : List UInt8).length ≤ 9223372036854775807) ∧
  J0
theorem aqi (te : TypeId) (fre : Nat × Nat) (xa : Tr) (need : Int) (K : (List UInt8) → Prop) (h : aiy te fre xa need K) :
  c8 Tryd.prog 51 [Tr.val (.star xa), zI need] [(1, .cells [zU 110, zU 10, zU 114, zU 13, zU 116, zU 9].toArray te fre)] [] (fun o => (∃ (v : List UInt8), K v ∧ o = .ret (st v) []) ∨ (False)) := by
 unfold aiy at h
 refine c6 (n := 82) (L0 := [(0, Tr.val (.star xa)), (1, zI need)]) Tryd.func51 rfl rfl rfl rfl (fun w0 M Q hE => ?_)
 refine a6 (fun _ hK => ?_)
 refine a4 ?_
 refine wa ?_
 refine WL.nil ?_
 refine kg (hK [(0, Tr.val (.star xa)), (1, zI need)] _ ?_)
 refine a6 (fun _ hK_1' => ?_)
 refine a4 ?_
 refine wa ?_
 refine wa ?_
 refine WL.nil ?_
 refine kg (hK_1' [(0, Tr.val (.star xa)), (1, zI need), (6, zI 4)] _ ?_)
 obtain ⟨J0, hJ, h⟩ := h
 refine m7 (X := Unit) (fun _ => J0) (fun _ => [(1, zI need), (5, st ((b8 xa 3) ++ ([42] : List UInt8))), (6, zI 3)]) (fun _ => []) ?_ (fun K0_11' hK_11' => ?_)
 ·rintro _ hj
  replace h := hJ () hj
  show WC _ _ _ _ [(1, zI need), (5, st ((b8 xa 3) ++ ([42] : List UInt8))), (6, zI 3)] []
  refine a6 (fun _ hK_12' => ?_)
  refine a6 (fun _ hK_13' => ?_)
  refine a4 ?_
  refine wm ?_
  refine wm ?_
  refine wv (OV.lss rfl rfl) ?_
  refine WL.nil ?_
  refine kg (hK_13' [(5, st ((b8 xa 3) ++ ([42] : List UInt8))), (77, zB (decide (3 < need)))] _ ?_)
  refine b5 (b := decide (3 < need)) rfl (fun hb => ?_) (fun hb => ?_)
  ·replace h := j4 h hb
   refine a6 (fun _ hK_14' => ?_)
   refine a4 ?_
   refine wm ?_
   obtain ⟨o_2', h⟩ := h
   refine wv (OV.cat rfl rfl o_2') ?_
   obtain ⟨o_3', h⟩ := h
   refine wv (OV.cat rfl rfl o_3') ?_
   refine wa ?_
   refine WL.nil ?_
   refine kg (hK_14' [(4, st ((([40] : List UInt8) ++ ((b8 xa 3) ++ ([42] : List UInt8))) ++ ([41] : List UInt8)))] _ ?_)
   refine b9 ?_
   exact hE.ret [] rfl rfl (.inl ⟨_, h, rfl⟩) (d8.of1 rfl (RV.tmp rfl))
  ·replace h := i9 h hb
   refine b7 ?_
   refine kg (hK_12' [(5, st ((b8 xa 3) ++ ([42] : List UInt8)))] _ ?_)
   refine a6 (fun _ hK_15' => ?_)
   refine a4 ?_
   refine wm ?_
   refine wa ?_
   refine WL.nil ?_
   refine kg (hK_15' [(4, st ((b8 xa 3) ++ ([42] : List UInt8)))] _ ?_)
   refine b9 ?_
   exact hE.ret [] rfl rfl (.inl ⟨_, h, rfl⟩) (d8.of1 rfl (RV.tmp rfl))
 ·skip
  refine a6 (fun _ hK_16' => ?_)
  refine a4 ?_
  refine wm ?_
  refine WL.nil ?_
  refine kg (hK_16' [(1, zI need), (6, zI 4), (15, Tr.val (.star xa))] _ ?_)
  refine g8 ?_
  refine a6 (fun _ hK_17' => ?_)
  refine a4 ?_
  refine wv (OV.assertNo (t2 := 167) (v := Value.agg [Tr.val xa].toArray) rfl acy adi rfl) ?_
  refine wv (OV.extract 1 rfl rfl) ?_
  refine wv (OV.extract 0 rfl rfl) ?_
  refine WL.nil ?_
  refine kg (hK_17' [(1, zI need), (6, zI 4), (15, Tr.val (.star xa)), (17, zB false), (18, Value.agg [].toArray)] _ ?_)
  refine n6 rfl ?_
  refine a6 (fun _ hK_18' => ?_)
  refine a4 ?_
  refine wv (OV.assertNo (t2 := 167) (v := Value.agg [Tr.val xa].toArray) rfl adp aeq rfl) ?_
  refine wv (OV.extract 1 rfl rfl) ?_
  refine wv (OV.extract 0 rfl rfl) ?_
  refine WL.nil ?_
  refine kg (hK_18' [(1, zI need), (6, zI 4), (15, Tr.val (.star xa)), (20, zB false), (21, Value.agg (wl cs0).toArray)] _ ?_)
  refine n6 rfl ?_
  refine a6 (fun _ hK_19' => ?_)
  refine a4 ?_
  refine wv (OV.assertNo (t2 := 167) (v := Value.agg [Tr.val xa].toArray) rfl ac4 aen rfl) ?_
  refine wv (OV.extract 1 rfl rfl) ?_
  refine wv (OV.extract 0 rfl rfl) ?_
  refine WL.nil ?_
  refine kg (hK_19' [(1, zI need), (6, zI 4), (15, Tr.val (.star xa)), (26, zB false), (27, Value.agg [Tr.val Tr.none, Tr.val Tr.none].toArray)] _ ?_)
  refine n6 rfl ?_
  refine a6 (fun _ hK_20' => ?_)
  refine a4 ?_
  refine wv (OV.assertNo (t2 := 167) (v := Value.agg [Tr.val xa].toArray) rfl aeh af2 rfl) ?_
  refine wv (OV.extract 1 rfl rfl) ?_
  refine wv (OV.extract 0 rfl rfl) ?_
  refine WL.nil ?_
  refine kg (hK_20' [(1, zI need), (6, zI 4), (15, Tr.val (.star xa)), (37, zB false), (38, Value.agg [Tr.val Tr.none, Tr.val Tr.none].toArray)] _ ?_)
  refine n6 rfl ?_
  refine a6 (fun _ hK_21' => ?_)
  refine a4 ?_
  refine wv (OV.assertNo (t2 := 167) (v := Value.agg [Tr.val xa].toArray) rfl agb air rfl) ?_
  refine wv (OV.extract 1 rfl rfl) ?_
  refine wv (OV.extract 0 rfl rfl) ?_
  refine WL.nil ?_
  refine kg (hK_21' [(1, zI need), (6, zI 4), (15, Tr.val (.star xa)), (48, zB false), (49, Value.agg [Tr.val Tr.none, Tr.val Tr.none].toArray)] _ ?_)
  refine n6 rfl ?_
  refine a6 (fun _ hK_22' => ?_)
  refine a4 ?_
  refine wv (OV.assertNo (t2 := 167) (v := Value.agg [Tr.val xa].toArray) rfl aj3 app rfl) ?_
  refine wv (OV.extract 1 rfl rfl) ?_
  refine wv (OV.extract 0 rfl rfl) ?_
  refine WL.nil ?_
  refine kg (hK_22' [(1, zI need), (6, zI 4), (15, Tr.val (.star xa)), (59, zB false), (60, Value.agg [Tr.val Tr.none, Tr.val Tr.none].toArray)] _ ?_)
  refine n6 rfl ?_
  refine a6 (fun _ hK_23' => ?_)
  refine a4 ?_
  refine wv (OV.assertYes (t' := 167) (v := Value.agg [Tr.val xa].toArray) rfl anj) ?_
  refine wv (OV.extract 1 rfl rfl) ?_
  refine wv (OV.extract 0 rfl rfl) ?_
  refine WL.nil ?_
  refine kg (hK_23' [(1, zI need), (6, zI 4), (15, Tr.val (.star xa)), (69, zB true), (70, Value.agg [Tr.val xa].toArray)] _ ?_)
  refine aai rfl ?_
  refine a6 (fun _ hK_24' => ?_)
  refine a4 ?_
  refine WL.make (MV.alloc aqo) rfl rfl rfl (fun b_1' => ?_)
  refine WL.store (vs := [Tr.val xa]) (cs' := [Tr.val xa]) 0 rfl rfl rfl rfl ap1 (Nat.le_of_ble_eq_true rfl) (c9 (Tr.val_one _) m6) rfl rfl ?_
  refine WL.nil ?_
  refine kg (hK_24' [(1, zI need), (13, zP b_1')] _ ?_)
  refine a4 ?_
  refine wv (OV.fieldAddr0 rfl afv) ?_
  refine wv (OV.load rfl (At.own 0 rfl) rfl j9) ?_
  obtain ⟨o_4', h⟩ := h
  refine WL.call (A := []) aaz rfl (o_4') rfl ⟨.inr (List.mem_of_getElem? (i := 0) rfl), trivial⟩ rfl rfl ?_
  obtain ⟨o_5', h⟩ := h
  refine wv (OV.cat rfl rfl o_5') ?_
  refine wa ?_
  refine wa ?_
  refine WL.nil ?_
  exact kh (hK_11' () h) []
def alu (te : TypeId) (fre : Nat × Nat) (xa : Tr) (xb : Tr) (need : Int) (K : (List UInt8) → Prop) : Prop :=
 ∃ (J0 : Prop),
  (∀ (_ : Unit), J0 →
   (if (decide (1 < need)) = true then
    (([40] : List UInt8).length + (((b8 xa 1) ++ ([38] : List UInt8)) ++ (b8 xb 2)).length ≤ 9223372036854775807) ∧
    ((([40] : List UInt8) ++ (((b8 xa 1) ++ ([38] : List UInt8)) ++ (b8 xb 2))).length + ([41] : List UInt8).length ≤ 9223372036854775807) ∧
    K ((([40] : List UInt8) ++ (((b8 xa 1) ++ ([38] : List UInt8)) ++ (b8 xb 2))) ++ ([41] : List UInt8))
   else
    K (((b8 xa 1) ++ ([38] : List UInt8)) ++ (b8 xb 2)))) ∧
  (c8 Tryd.prog 51 [Tr.val xa, zI 1] (z6 te fre) [] (Ret (st (b8 xa 1)) [])) ∧
  ((b8 xa 1).length + ([38] : List UInt8).length ≤ 9223372036854775807) ∧
  (c8 Tryd.prog 51 [Tr.val xb, zI 2] (z6 te fre) [] (Ret (st (b8 xb 2)) [])) ∧
  (((b8 xa 1) ++ ([38] : List UInt8)).length + (b8 xb 2).length ≤ 9223372036854775807) ∧
  J0
theorem ast (te : TypeId) (fre : Nat × Nat) (xa : Tr) (xb : Tr) (need : Int) (K : (List UInt8) → Prop) (h : alu te fre xa xb need K) :
  c8 Tryd.prog 51 [Tr.val (.and xa xb), zI need] [(1, .cells [zU 110, zU 10, zU 114, zU 13, zU 116, zU 9].toArray te fre)] [] (fun o => (∃ (v : List UInt8), K v ∧ o = .ret (st v) []) ∨ (False)) := by
 unfold alu at h
 refine c6 (n := 82) (L0 := [(0, Tr.val (.and xa xb)), (1, zI need)]) Tryd.func51 rfl rfl rfl rfl (fun w0 M Q hE => ?_)
 refine a6 (fun _ hK => ?_)
 refine a4 ?_
 refine wa ?_
 refine WL.nil ?_
 refine kg (hK [(0, Tr.val (.and xa xb)), (1, zI need)] _ ?_)
 refine a6 (fun _ hK_1' => ?_)
 refine a4 ?_
 refine wa ?_
 refine wa ?_
 refine WL.nil ?_
 refine kg (hK_1' [(0, Tr.val (.and xa xb)), (1, zI need), (6, zI 4)] _ ?_)
 obtain ⟨J0, hJ, h⟩ := h
 refine m7 (X := Unit) (fun _ => J0) (fun _ => [(1, zI need), (5, st (((b8 xa 1) ++ ([38] : List UInt8)) ++ (b8 xb 2))), (6, zI 1)]) (fun _ => []) ?_ (fun K0_8' hK_8' => ?_)
 ·rintro _ hj
  replace h := hJ () hj
  show WC _ _ _ _ [(1, zI need), (5, st (((b8 xa 1) ++ ([38] : List UInt8)) ++ (b8 xb 2))), (6, zI 1)] []
  refine a6 (fun _ hK_9' => ?_)
  refine a6 (fun _ hK_10' => ?_)
  refine a4 ?_
  refine wm ?_
  refine wm ?_
  refine wv (OV.lss rfl rfl) ?_
  refine WL.nil ?_
  refine kg (hK_10' [(5, st (((b8 xa 1) ++ ([38] : List UInt8)) ++ (b8 xb 2))), (77, zB (decide (1 < need)))] _ ?_)
  refine b5 (b := decide (1 < need)) rfl (fun hb => ?_) (fun hb => ?_)
  ·replace h := j4 h hb
   refine a6 (fun _ hK_11' => ?_)
   refine a4 ?_
   refine wm ?_
   obtain ⟨o_4', h⟩ := h
   refine wv (OV.cat rfl rfl o_4') ?_
   obtain ⟨o_5', h⟩ := h
   refine wv (OV.cat rfl rfl o_5') ?_
   refine wa ?_
   refine WL.nil ?_
   refine kg (hK_11' [(4, st ((([40] : List UInt8) ++ (((b8 xa 1) ++ ([38] : List UInt8)) ++ (b8 xb 2))) ++ ([41] : List UInt8)))] _ ?_)
   refine b9 ?_
   exact hE.ret [] rfl rfl (.inl ⟨_, h, rfl⟩) (d8.of1 rfl (RV.tmp rfl))
  ·replace h := i9 h hb
   refine b7 ?_
   refine kg (hK_9' [(5, st (((b8 xa 1) ++ ([38] : List UInt8)) ++ (b8 xb 2)))] _ ?_)
   refine a6 (fun _ hK_12' => ?_)
   refine a4 ?_
   refine wm ?_
   refine wa ?_
   refine WL.nil ?_
   refine kg (hK_12' [(4, st (((b8 xa 1) ++ ([38] : List UInt8)) ++ (b8 xb 2)))] _ ?_)
   refine b9 ?_
   exact hE.ret [] rfl rfl (.inl ⟨_, h, rfl⟩) (d8.of1 rfl (RV.tmp rfl))
 ·skip
  refine a6 (fun _ hK_13' => ?_)
  refine a4 ?_
  refine wm ?_
  refine WL.nil ?_
  refine kg (hK_13' [(1, zI need), (6, zI 4), (15, Tr.val (.and xa xb))] _ ?_)
  refine g8 ?_
  refine a6 (fun _ hK_14' => ?_)
  refine a4 ?_
  refine wv (OV.assertNo (t2 := 163) (v := Value.agg [Tr.val xa, Tr.val xb].toArray) rfl acy adi rfl) ?_
  refine wv (OV.extract 1 rfl rfl) ?_
  refine wv (OV.extract 0 rfl rfl) ?_
  refine WL.nil ?_
  refine kg (hK_14' [(1, zI need), (6, zI 4), (15, Tr.val (.and xa xb)), (17, zB false), (18, Value.agg [].toArray)] _ ?_)
  refine n6 rfl ?_
  refine a6 (fun _ hK_15' => ?_)
  refine a4 ?_
  refine wv (OV.assertNo (t2 := 163) (v := Value.agg [Tr.val xa, Tr.val xb].toArray) rfl adp aeq rfl) ?_
  refine wv (OV.extract 1 rfl rfl) ?_
  refine wv (OV.extract 0 rfl rfl) ?_
  refine WL.nil ?_
  refine kg (hK_15' [(1, zI need), (6, zI 4), (15, Tr.val (.and xa xb)), (20, zB false), (21, Value.agg (wl cs0).toArray)] _ ?_)
  refine n6 rfl ?_
  refine a6 (fun _ hK_16' => ?_)
  refine a4 ?_
  refine wv (OV.assertNo (t2 := 163) (v := Value.agg [Tr.val xa, Tr.val xb].toArray) rfl ac4 aen rfl) ?_
  refine wv (OV.extract 1 rfl rfl) ?_
  refine wv (OV.extract 0 rfl rfl) ?_
  refine WL.nil ?_
  refine kg (hK_16' [(1, zI need), (6, zI 4), (15, Tr.val (.and xa xb)), (26, zB false), (27, Value.agg [Tr.val Tr.none, Tr.val Tr.none].toArray)] _ ?_)
  refine n6 rfl ?_
  refine a6 (fun _ hK_17' => ?_)
  refine a4 ?_
  refine wv (OV.assertYes (t' := 163) (v := Value.agg [Tr.val xa, Tr.val xb].toArray) rfl aeh) ?_
  refine wv (OV.extract 1 rfl rfl) ?_
  refine wv (OV.extract 0 rfl rfl) ?_
  refine WL.nil ?_
  refine kg (hK_17' [(1, zI need), (6, zI 4), (15, Tr.val (.and xa xb)), (37, zB true), (38, Value.agg [Tr.val xa, Tr.val xb].toArray)] _ ?_)
  refine aai rfl ?_
  refine a6 (fun _ hK_18' => ?_)
  refine a4 ?_
  refine WL.make (MV.alloc apg) rfl rfl rfl (fun b_1' => ?_)
  refine WL.storeW (vs := [Tr.val xa, Tr.val xb]) 0 rfl rfl rfl rfl rfl apr rfl (c9 (Tr.val_one _) (c9 (Tr.val_one _) m6)) rfl ?_
  refine WL.nil ?_
  refine kg (hK_18' [(1, zI need), (10, zP b_1')] _ ?_)
  refine n9 7 [] f0 (by kernel_rfl) rfl (fun T_1' hT_1' => ?_)
  refine fv (fun _ => OV.fieldAddr0 rfl adm) ?_
  refine fv (fun _ => OV.load rfl (At.own 0 rfl) rfl j9) ?_
  obtain ⟨o_6', h⟩ := h
  refine FL.call aaz (fun _ => rfl) (o_6') ⟨.inr (List.mem_of_getElem? (i := 0) rfl), trivial⟩ rfl (fun _ => rfl) rfl ?_
  obtain ⟨o_7', h⟩ := h
  refine fv (fun _ => OV.cat rfl rfl o_7') ?_
  refine fv (fun _ => OV.fieldAddr0 rfl adf) ?_
  refine fv (fun _ => OV.load rfl (At.own 0 rfl) rfl j9) ?_
  obtain ⟨o_8', h⟩ := h
  refine FL.call aaz (fun _ => rfl) (o_8') ⟨.inr (List.mem_of_getElem? (i := 0) rfl), trivial⟩ rfl (fun _ => rfl) rfl ?_
  refine FL.weak (L' := fun γ => [(1, zI need), (42, st ((b8 xa 1) ++ ([38] : List UInt8))), (45, st (b8 xb 2))]) (fun γ => ⟨rfl, rfl, rfl, trivial⟩) (FL.nil (hT_1' (fun γ => [(1, zI need), (42, st ((b8 xa 1) ++ ([38] : List UInt8))), (45, st (b8 xb 2))]) (fun γ => ?_)))
  obtain ⟨o_9', h⟩ := h
  refine wv (OV.cat rfl rfl o_9') ?_
  refine wa ?_
  refine wa ?_
  refine WL.nil ?_
  exact kh (hK_8' () h) []
def ah5 (te : TypeId) (fre : Nat × Nat) (xa : Tr) (xb : Tr) (need : Int) (K : (List UInt8) → Prop) : Prop :=
 ∃ (J0 : Prop),
  (∀ (_ : Unit), J0 →
   (if (decide (1 < need)) = true then
    (([40] : List UInt8).length + (((b8 xa 1) ++ ([45] : List UInt8)) ++ (b8 xb 2)).length ≤ 9223372036854775807) ∧
    ((([40] : List UInt8) ++ (((b8 xa 1) ++ ([45] : List UInt8)) ++ (b8 xb 2))).length + ([41] : List UInt8).length ≤ 9223372036854775807) ∧
    K ((([40] : List UInt8) ++ (((b8 xa 1) ++ ([45] : List UInt8)) ++ (b8 xb 2))) ++ ([41] : List UInt8))
   else
    K (((b8 xa 1) ++ ([45] : List UInt8)) ++ (b8 xb 2)))) ∧
  (c8 Tryd.prog 51 [Tr.val xa, zI 1] (z6 te fre) [] (Ret (st (b8 xa 1)) [])) ∧
  ((b8 xa 1).length + ([45] : List UInt8).length ≤ 9223372036854775807) ∧
  (c8 Tryd.prog 51 [Tr.val xb, zI 2] (z6 te fre) [] (Ret (st (b8 xb 2)) [])) ∧
  (((b8 xa 1) ++ ([45] : List UInt8)).length + (b8 xb 2).length ≤ 9223372036854775807) ∧
  J0
theorem an5 (te : TypeId) (fre : Nat × Nat) (xa : Tr) (xb : Tr) (need : Int) (K : (List UInt8) → Prop) (h : ah5 te fre xa xb need K) :
  c8 Tryd.prog 51 [Tr.val (.minus xa xb), zI need] [(1, .cells [zU 110, zU 10, zU 114, zU 13, zU 116, zU 9].toArray te fre)] [] (fun o => (∃ (v : List UInt8), K v ∧ o = .ret (st v) []) ∨ (False)) := by
 unfold ah5 at h
 refine c6 (n := 82) (L0 := [(0, Tr.val (.minus xa xb)), (1, zI need)]) Tryd.func51 rfl rfl rfl rfl (fun w0 M Q hE => ?_)
 refine a6 (fun _ hK => ?_)
 refine a4 ?_
 refine wa ?_
 refine WL.nil ?_
 refine kg (hK [(0, Tr.val (.minus xa xb)), (1, zI need)] _ ?_)
 refine a6 (fun _ hK_1' => ?_)
 refine a4 ?_
 refine wa ?_
 refine wa ?_
 refine WL.nil ?_
 refine kg (hK_1' [(0, Tr.val (.minus xa xb)), (1, zI need), (6, zI 4)] _ ?_)
 obtain ⟨J0, hJ, h⟩ := h
 refine m7 (X := Unit) (fun _ => J0) (fun _ => [(1, zI need), (5, st (((b8 xa 1) ++ ([45] : List UInt8)) ++ (b8 xb 2))), (6, zI 1)]) (fun _ => []) ?_ (fun K0_9' hK_9' => ?_)
 ·rintro _ hj
  replace h := hJ () hj
  show WC _ _ _ _ [(1, zI need), (5, st (((b8 xa 1) ++ ([45] : List UInt8)) ++ (b8 xb 2))), (6, zI 1)] []
  refine a6 (fun _ hK_10' => ?_)
  refine a6 (fun _ hK_11' => ?_)
  refine a4 ?_
  refine wm ?_
  refine wm ?_
  refine wv (OV.lss rfl rfl) ?_
  refine WL.nil ?_
  refine kg (hK_11' [(5, st (((b8 xa 1) ++ ([45] : List UInt8)) ++ (b8 xb 2))), (77, zB (decide (1 < need)))] _ ?_)
  refine b5 (b := decide (1 < need)) rfl (fun hb => ?_) (fun hb => ?_)
  ·replace h := j4 h hb
   refine a6 (fun _ hK_12' => ?_)
   refine a4 ?_
   refine wm ?_
   obtain ⟨o_4', h⟩ := h
   refine wv (OV.cat rfl rfl o_4') ?_
   obtain ⟨o_5', h⟩ := h
   refine wv (OV.cat rfl rfl o_5') ?_
   refine wa ?_
   refine WL.nil ?_
   refine kg (hK_12' [(4, st ((([40] : List UInt8) ++ (((b8 xa 1) ++ ([45] : List UInt8)) ++ (b8 xb 2))) ++ ([41] : List UInt8)))] _ ?_)
   refine b9 ?_
   exact hE.ret [] rfl rfl (.inl ⟨_, h, rfl⟩) (d8.of1 rfl (RV.tmp rfl))
  ·replace h := i9 h hb
   refine b7 ?_
   refine kg (hK_10' [(5, st (((b8 xa 1) ++ ([45] : List UInt8)) ++ (b8 xb 2)))] _ ?_)
   refine a6 (fun _ hK_13' => ?_)
   refine a4 ?_
   refine wm ?_
   refine wa ?_
   refine WL.nil ?_
   refine kg (hK_13' [(4, st (((b8 xa 1) ++ ([45] : List UInt8)) ++ (b8 xb 2)))] _ ?_)
   refine b9 ?_
   exact hE.ret [] rfl rfl (.inl ⟨_, h, rfl⟩) (d8.of1 rfl (RV.tmp rfl))
 ·skip
  refine a6 (fun _ hK_14' => ?_)
  refine a4 ?_
  refine wm ?_
  refine WL.nil ?_
  refine kg (hK_14' [(1, zI need), (6, zI 4), (15, Tr.val (.minus xa xb))] _ ?_)
  refine g8 ?_
  refine a6 (fun _ hK_15' => ?_)
  refine a4 ?_
  refine wv (OV.assertNo (t2 := 164) (v := Value.agg [Tr.val xa, Tr.val xb].toArray) rfl acy adi rfl) ?_
  refine wv (OV.extract 1 rfl rfl) ?_
  refine wv (OV.extract 0 rfl rfl) ?_
  refine WL.nil ?_
  refine kg (hK_15' [(1, zI need), (6, zI 4), (15, Tr.val (.minus xa xb)), (17, zB false), (18, Value.agg [].toArray)] _ ?_)
  refine n6 rfl ?_
  refine a6 (fun _ hK_16' => ?_)
  refine a4 ?_
  refine wv (OV.assertNo (t2 := 164) (v := Value.agg [Tr.val xa, Tr.val xb].toArray) rfl adp aeq rfl) ?_
  refine wv (OV.extract 1 rfl rfl) ?_
  refine wv (OV.extract 0 rfl rfl) ?_
  refine WL.nil ?_
  refine kg (hK_16' [(1, zI need), (6, zI 4), (15, Tr.val (.minus xa xb)), (20, zB false), (21, Value.agg (wl cs0).toArray)] _ ?_)
  refine n6 rfl ?_
  refine a6 (fun _ hK_17' => ?_)
  refine a4 ?_
  refine wv (OV.assertNo (t2 := 164) (v := Value.agg [Tr.val xa, Tr.val xb].toArray) rfl ac4 aen rfl) ?_
  refine wv (OV.extract 1 rfl rfl) ?_
  refine wv (OV.extract 0 rfl rfl) ?_
  refine WL.nil ?_
  refine kg (hK_17' [(1, zI need), (6, zI 4), (15, Tr.val (.minus xa xb)), (26, zB false), (27, Value.agg [Tr.val Tr.none, Tr.val Tr.none].toArray)] _ ?_)
  refine n6 rfl ?_
  refine a6 (fun _ hK_18' => ?_)
  refine a4 ?_
  refine wv (OV.assertNo (t2 := 164) (v := Value.agg [Tr.val xa, Tr.val xb].toArray) rfl aeh af2 rfl) ?_
  refine wv (OV.extract 1 rfl rfl) ?_
  refine wv (OV.extract 0 rfl rfl) ?_
  refine WL.nil ?_
  refine kg (hK_18' [(1, zI need), (6, zI 4), (15, Tr.val (.minus xa xb)), (37, zB false), (38, Value.agg [Tr.val Tr.none, Tr.val Tr.none].toArray)] _ ?_)
  refine n6 rfl ?_
  refine a6 (fun _ hK_19' => ?_)
  refine a4 ?_
  refine wv (OV.assertYes (t' := 164) (v := Value.agg [Tr.val xa, Tr.val xb].toArray) rfl agb) ?_
  refine wv (OV.extract 1 rfl rfl) ?_
  refine wv (OV.extract 0 rfl rfl) ?_
  refine WL.nil ?_
  refine kg (hK_19' [(1, zI need), (6, zI 4), (15, Tr.val (.minus xa xb)), (48, zB true), (49, Value.agg [Tr.val xa, Tr.val xb].toArray)] _ ?_)
  refine aai rfl ?_
  refine a6 (fun _ hK_20' => ?_)
  refine a4 ?_
  refine WL.make (MV.alloc aqt) rfl rfl rfl (fun b_1' => ?_)
  refine WL.storeW (vs := [Tr.val xa, Tr.val xb]) 0 rfl rfl rfl rfl rfl apa rfl (c9 (Tr.val_one _) (c9 (Tr.val_one _) m6)) rfl ?_
  refine WL.nil ?_
  refine kg (hK_20' [(1, zI need), (11, zP b_1')] _ ?_)
  refine n9 7 [] f0 (by kernel_rfl) rfl (fun T_1' hT_1' => ?_)
  refine fv (fun _ => OV.fieldAddr0 rfl adl) ?_
  refine fv (fun _ => OV.load rfl (At.own 0 rfl) rfl j9) ?_
  obtain ⟨o_6', h⟩ := h
  refine FL.call aaz (fun _ => rfl) (o_6') ⟨.inr (List.mem_of_getElem? (i := 0) rfl), trivial⟩ rfl (fun _ => rfl) rfl ?_
  obtain ⟨o_7', h⟩ := h
  refine fv (fun _ => OV.cat rfl rfl o_7') ?_
  refine fv (fun _ => OV.fieldAddr0 rfl adc) ?_
  refine fv (fun _ => OV.load rfl (At.own 0 rfl) rfl j9) ?_
  obtain ⟨o_8', h⟩ := h
  refine FL.call aaz (fun _ => rfl) (o_8') ⟨.inr (List.mem_of_getElem? (i := 0) rfl), trivial⟩ rfl (fun _ => rfl) rfl ?_
  refine FL.weak (L' := fun γ => [(1, zI need), (53, st ((b8 xa 1) ++ ([45] : List UInt8))), (56, st (b8 xb 2))]) (fun γ => ⟨rfl, rfl, rfl, trivial⟩) (FL.nil (hT_1' (fun γ => [(1, zI need), (53, st ((b8 xa 1) ++ ([45] : List UInt8))), (56, st (b8 xb 2))]) (fun γ => ?_)))
  obtain ⟨o_9', h⟩ := h
  refine wv (OV.cat rfl rfl o_9') ?_
  refine wa ?_
  refine wa ?_
  refine WL.nil ?_
  exact kh (hK_9' () h) []
theorem ac5 : ∀ x : Tr, (w4 x).length ≤ 4102 * x.size
 | .none | .eps => by simp [w4, Tr.size]
 | .cls s => by have := au9 s; simp only [w4, Tr.size]; omega
 | .cat a b | .alt a b | .and a b | .minus a b => by
  have h1 := ac5 a; have h2 := ac5 b
  simp only [w4, Tr.size, List.length_append, List.length_cons, List.length_nil]
  have h3 := fun n => ah7 a n (w4 a); have h4 := fun n => ah7 b n (w4 b)
  have h5 := h3 0; have h6 := h3 1; have h7 := h3 2; have h8 := h4 1; have h9 := h4 2; have h10 := h4 3
  omega
 | .star a => by
  have h1 := ac5 a; have h3 := ah7 a 3 (w4 a)
  simp only [w4, Tr.size, List.length_append, List.length_cons, List.length_nil]
  omega
theorem aaf (x : Tr) (n : Int) : (b8 x n).length ≤ 4104 * x.size := by
 have h1 := ac5 x; have h2 := ah7 x n (w4 x); have h3 := x.size_pos
 unfold b8; omega
theorem aw1 {x : Tr} {n r : Int} (h : ala x = r) : b8 x n = if decide (r < n) = true then ([40] ++ w4 x) ++ [41] else w4 x := by
 unfold b8 agf; rw [h]; simp
theorem acv {x : Tr} {n r : Int} {s : List UInt8} (hr : ala x = r) (hs : w4 x = s) (hb : x.size ≤ 1099511627776) : if decide (r < n) = true then ([40] : List UInt8).length + s.length ≤ 9223372036854775807 ∧ (([40] : List UInt8) ++ s).length + ([41] : List UInt8).length ≤ 9223372036854775807 ∧ (([40] : List UInt8) ++ s) ++ ([41] : List UInt8) = b8 x n else s = b8 x n := by
 have hl := ac5 x
 rw [aw1 hr, ← hs]
 split
 ·simp only [List.length_append, List.length_cons, List.length_nil]
  exact ⟨by omega, by omega, trivial⟩
 ·rfl
theorem aax (te : TypeId) (fre : Nat × Nat) : ∀ (x : Tr) (n : Int), x.size ≤ 1099511627776 → c8 Tryd.prog 51 [x.val, .int .i64 n] (z6 te fre) [] (Ret (st (b8 x n)) [])
 | .none, n, hb => c8.one (ao0 te fre n (fun v => v = b8 .none n) ⟨True, fun _ _ => acv rfl rfl hb, trivial⟩)
 | .eps, n, hb => c8.one (ate te fre n (fun v => v = b8 .eps n) ⟨True, fun _ _ => acv rfl rfl hb, trivial⟩)
 | .cls s, n, hb => c8.one (asi te fre s n (fun v => v = b8 (.cls s) n) ⟨True, fun _ _ => acv rfl rfl hb, trivial⟩)
 | .cat a b, n, hb => c8.one (ari te fre a b n (fun v => v = b8 (.cat a b) n) (by
   have hb' := hb; simp only [Tr.size] at hb'
   have h1 := aaf a 2; have h2 := aaf b 3
   exact ⟨True, fun _ _ => acv rfl rfl hb, aax te fre a 2 (by omega), aax te fre b 3 (by omega), by omega, trivial⟩))
 | .alt a b, n, hb => c8.one (as4 te fre a b n (fun v => v = b8 (.alt a b) n) (by
   have hb' := hb; simp only [Tr.size] at hb'
   have h1 := aaf a 0; have h2 := aaf b 1
   exact ⟨True, fun _ _ => acv rfl rfl hb, aax te fre a 0 (by omega), by simp only [List.length_cons, List.length_nil]; omega, aax te fre b 1 (by omega), by simp only [List.length_append, List.length_cons, List.length_nil]; omega, trivial⟩))
 | .and a b, n, hb => c8.one (ast te fre a b n (fun v => v = b8 (.and a b) n) (by
   have hb' := hb; simp only [Tr.size] at hb'
   have h1 := aaf a 1; have h2 := aaf b 2
   exact ⟨True, fun _ _ => acv rfl rfl hb, aax te fre a 1 (by omega), by simp only [List.length_cons, List.length_nil]; omega, aax te fre b 2 (by omega), by simp only [List.length_append, List.length_cons, List.length_nil]; omega, trivial⟩))
 | .minus a b, n, hb => c8.one (an5 te fre a b n (fun v => v = b8 (.minus a b) n) (by
   have hb' := hb; simp only [Tr.size] at hb'
   have h1 := aaf a 1; have h2 := aaf b 2
   exact ⟨True, fun _ _ => acv rfl rfl hb, aax te fre a 1 (by omega), by simp only [List.length_cons, List.length_nil]; omega, aax te fre b 2 (by omega), by simp only [List.length_append, List.length_cons, List.length_nil]; omega, trivial⟩))
 | .star a, n, hb => c8.one (aqi te fre a n (fun v => v = b8 (.star a) n) (by
   have hb' := hb; simp only [Tr.size] at hb'
   have h1 := aaf a 3
   exact ⟨True, fun _ _ => acv rfl rfl hb, aax te fre a 3 (by omega), by simp only [List.length_cons, List.length_nil]; omega, trivial⟩))
end Go.Proofs.YtohnchdnkbadaaaDoor
namespace Go.Proofs.YtohnchdnkbadaaaDoor
open Go Go.ChangeShapes Go.WideShapes Go.ChangeAt Go.RowKit
set_option maxRecDepth 100000 in
theorem ame (os : Os) (args : Array Value) : laidMetH Tryd.prog adw ((aik os).forCall (fun _ _ => 0) ⟨#[], args, []⟩).memory := by
 rw [akr]
 exact ⟨_, ⟨1, 214, aba, 8, [], [], by kernel_rfl, by kernel_rfl, by kernel_rfl, by kernel_rfl, rfl, rfl⟩, by decide, fun b off h => by
    have h' : MemPlace.cell b off ∈ [MemPlace.cell 1 0, .cell 1 1, .cell 1 2, .cell 1 3, .cell 1 4, .cell 1 5] := h
    have hb : b = 1 := by
     simp at h'
     omega
    subst hb
    refine ⟨⟨_, _, agn os _⟩, fun u v hc => ?_⟩
    simp only [World.cell?, agn os] at hc
    simp at h'
    rcases h' with rfl | rfl | rfl | rfl | rfl | rfl <;> simp [aba] at hc⟩
theorem c8.pureE {f : FuncId} {vs : List Value} {v : Value} (h : ∀ te fre, c8 Tryd.prog f vs (z6 te fre) [] (Ret v [])) : aht f vs.toArray v := fun w ⟨te, fre, he⟩ => by
 refine (h te fre w [] rfl List.nodup_nil (fun k hk => by cases hk) (fun p hp => by obtain rfl := List.mem_singleton.1 hp; exact ⟨he, fun hx => by cases hx⟩)).mono ?_
 rintro en w' ⟨H', hS, hh⟩
 rcases hS with ⟨r, rfl, hS⟩ | ⟨c, rfl, hS⟩
 ·cases hS; exact ⟨rfl, hh.toBelow⟩
 ·cases hS
end Go.Proofs.YtohnchdnkbadaaaDoor
namespace Go.Proofs.YtohnchdnkbadaaaDoor
open Go Go.RowKit
def q8 (n : Int) : List Value := [.int .i64 n]
theorem aaw (n : Int) : (q8 n).length = 1 := rfl
theorem awh (t : List UInt8) (j : Int) : 0 ≤ nx t j ∧ nx t j < 256 := by
 unfold nx
 have := (t.getD j.toNat 0).toNat_lt
 omega
theorem ay3 {t : List UInt8} {j : Int} (h : (t.length : Int) ≤ j) : nx t j = 0 := by
 unfold nx
 rw [List.getD_eq_getElem?_getD, List.getElem?_eq_none (by omega)]; rfl
theorem RP.total (t : List UInt8) : ∀ (n : Nat) (x : Tr) (j : Int), 0 ≤ j → (t.length : Int) - j < n → ∃ r, RP t x j r
 | 0, x, j, h0, h => ⟨_, .zero (by omega)⟩
 | n + 1, x, j, h0, h => by
  by_cases hl : j < t.length
  ·by_cases h1 : nx t j = 42 ∨ nx t j = 43 ∨ nx t j = 63
   ·obtain ⟨r, hr⟩ := RP.total t n (ai1 (nx t j) x) (j + 1) (by omega) (by omega)
    exact ⟨r, .one hl h1 hr⟩
   ·by_cases h2 : nx t j = 123
    ·cases hb : z7 t x j with
     | error e => exact ⟨_, .braceE hl h2 hb⟩
     | ok p =>
      obtain ⟨y, k⟩ := p
      have := ahi hb h0 hl
      obtain ⟨r, hr⟩ := RP.total t n y k (by omega) (by omega)
      exact ⟨r, .brace hl h2 hb hr⟩
    ·exact ⟨_, .zero (by omega)⟩
  ·exact ⟨_, .zero (by omega)⟩
theorem RP.tot (t : List UInt8) (x : Tr) {j : Int} (h0 : 0 ≤ j) : ∃ r, RP t x j r := RP.total t ((t.length : Int) - j + 1).toNat x j h0 (by omega)
abbrev Tot (t : List UInt8) (m : Md) (i : Int) : Prop := ∀ d, ∃ r, PR t m d i r
theorem aie {t : List UInt8} {i : Int} (hA : ∀ j, i < j → Tot t .alt j) : ∀ (n : Nat) (acc : Option Tr) (j : Int), i ≤ j → 0 ≤ j → (t.length : Int) - j < n → Tot t (.row acc) j
 | 0, acc, j, _, h0, h, d => ⟨_, .rowZ (by omega)⟩
 | n + 1, acc, j, hi, h0, h, d => by
  by_cases hl : j < t.length
  ·by_cases h1 : nx t j = 124 ∨ nx t j = 38 ∨ nx t j = 45 ∨ nx t j = 41
   ·exact ⟨_, .rowZ (by omega)⟩
   by_cases h2 : nx t j = 42 ∨ nx t j = 43 ∨ nx t j = 63 ∨ nx t j = 123
   ·exact ⟨_, .rowB hl h2⟩
   by_cases h3 : nx t j = 40
   ·by_cases hd : d < 1000
    ·obtain ⟨q, hq⟩ := hA (j + 1) (by omega) (d + 1)
     cases q with
     | error e => exact ⟨_, .rowPE hl h3 hd hq⟩
     | ok p =>
      obtain ⟨x, k⟩ := p
      have hk := hq.ends (by omega) (by omega) _ _ rfl
      by_cases hkl : k < t.length
      ·obtain ⟨q2, hq2⟩ := RP.tot t x (j := k + 1) (by omega)
       cases q2 with
       | error e => exact ⟨_, .rowPR hl h3 hd hq hkl hq2⟩
       | ok p2 =>
        obtain ⟨y, l⟩ := p2
        have hl2 := hq2.ends (by omega) (by omega) _ _ rfl
        obtain ⟨r, hr⟩ := aie hA n (ajk acc y) l (by omega) (by omega) (by omega) d
        exact ⟨r, .rowP hl h3 hd hq hkl hq2 hr⟩
      ·exact ⟨_, .rowO hl h3 hd hq hkl⟩
    ·exact ⟨_, .rowN hl h3 (by omega)⟩
   ·have hc : nx t j ∉ [124, 38, 45, 41, 42, 43, 63, 123, 40] := by simp; omega
    rcases hm : j7 t j with ⟨s, k, e, p⟩
    by_cases hz : e = 0 ∧ p = 0
    ·obtain ⟨rfl, rfl⟩ := hz
     have hk := afe hm h0
     obtain ⟨q2, hq2⟩ := RP.tot t (.cls s) (j := k) (by omega)
     cases q2 with
     | error e => exact ⟨_, .rowCR hl hc hm hq2⟩
     | ok p2 =>
      obtain ⟨y, l⟩ := p2
      have hl2 := hq2.ends (by omega) (by omega) _ _ rfl
      obtain ⟨r, hr⟩ := aie hA n (ajk acc y) l (by omega) (by omega) (by omega) d
      exact ⟨r, .rowC hl hc hm hq2 hr⟩
    ·exact ⟨_, .rowCE hl hc hm hz⟩
  ·exact ⟨_, .rowZ (by omega)⟩
theorem ai8 {t : List UInt8} {i : Int} (hR : ∀ j, i ≤ j → 0 ≤ j → Tot t (.row none) j) : ∀ (n : Nat) (x : Tr) (j : Int), i ≤ j → 0 ≤ j → (t.length : Int) - j < n → Tot t (.meetL x) j
 | 0, x, j, _, h0, h, d => ⟨_, .meetZ (by omega)⟩
 | n + 1, x, j, hi, h0, h, d => by
  by_cases hc : j < t.length ∧ (nx t j = 38 ∨ nx t j = 45)
  ·obtain ⟨q, hq⟩ := hR (j + 1) (by omega) (by omega) d
   cases q with
   | error e => exact ⟨_, .meetLE hc.1 hc.2 hq⟩
   | ok p =>
    obtain ⟨y, k⟩ := p
    have hk := hq.ends (by omega) (by omega) _ _ rfl
    obtain ⟨r, hr⟩ := ai8 hR n (arf (nx t j) x y) k (by omega) (by omega) (by omega) d
    exact ⟨r, .meetL hc.1 hc.2 hq hr⟩
  ·exact ⟨_, .meetZ hc⟩
theorem akd {t : List UInt8} {i : Int} (hM : ∀ j, i ≤ j → 0 ≤ j → Tot t .meet j) : ∀ (n : Nat) (x : Tr) (j : Int), i ≤ j → 0 ≤ j → (t.length : Int) - j < n → Tot t (.altL x) j
 | 0, x, j, _, h0, h, d => ⟨_, .altZ (by omega)⟩
 | n + 1, x, j, hi, h0, h, d => by
  by_cases hc : j < t.length ∧ nx t j = 124
  ·obtain ⟨q, hq⟩ := hM (j + 1) (by omega) (by omega) d
   cases q with
   | error e => exact ⟨_, .altLE hc.1 hc.2 hq⟩
   | ok p =>
    obtain ⟨y, k⟩ := p
    have hk := hq.ends (by omega) (by omega) _ _ rfl
    obtain ⟨r, hr⟩ := akd hM n (.alt x y) k (by omega) (by omega) (by omega) d
    exact ⟨r, .altL hc.1 hc.2 hq hr⟩
  ·exact ⟨_, .altZ hc⟩
theorem amq (t : List UInt8) : ∀ (n : Nat) (i : Int), 0 ≤ i → (t.length : Int) - i < n → Tot t .alt i
 | 0, i, h0, h, d => ⟨_, .alt (.meet (.rowZ (by omega)) (.meetZ (by omega))) (.altZ (by omega))⟩
 | n + 1, i, h0, h, d => by
  have hA : ∀ j, i < j → Tot t .alt j := fun j hj => amq t n j (by omega) (by omega)
  have hR : ∀ j, i ≤ j → 0 ≤ j → Tot t (.row none) j := fun j hj h0 => aie hA ((t.length : Int) - j + 1).toNat none j hj h0 (by omega)
  have hM : ∀ j, i ≤ j → 0 ≤ j → Tot t .meet j := fun j hj h0 d => by
   obtain ⟨q, hq⟩ := hR j hj h0 d
   cases q with
   | error e => exact ⟨_, .meetE hq⟩
   | ok p =>
    obtain ⟨x, k⟩ := p
    by_cases hjl : j ≤ t.length
    ·have hk := hq.ends (by omega) (by omega) _ _ rfl
     obtain ⟨r, hr⟩ := ai8 hR ((t.length : Int) - k + 1).toNat x k (by omega) (by omega) (by omega) d
     exact ⟨r, .meet hq hr⟩
    ·have : k = j := by cases hq with
      | rowZ => rfl
      | _ => omega
     exact ⟨_, .meet hq (.meetZ (by omega))⟩
  obtain ⟨q, hq⟩ := hM i (by omega) h0 d
  cases q with
  | error e => exact ⟨_, .altE hq⟩
  | ok p =>
   obtain ⟨x, k⟩ := p
   by_cases hil : i ≤ t.length
   ·have hk := hq.ends (by omega) (by omega) _ _ rfl
    obtain ⟨r, hr⟩ := akd hM ((t.length : Int) - k + 1).toNat x k (by omega) (by omega) (by omega) d
    exact ⟨r, .alt hq hr⟩
   ·exact ⟨_, .alt (.meet (.rowZ (by omega)) (.meetZ (by omega))) (.altZ (by omega))⟩
def Tr.solid : Tr → Prop
 | .none => False
 | .eps | .cls _ => True
 | .cat a b => a.solid ∧ b.solid
 | .alt a b => a.solid ∧ b.solid
 | .star a => a.solid
 | .and a b => a.solid ∧ b.solid
 | .minus a b => a.solid ∧ b.solid
theorem ahc {y : Tr} (hy : y.solid) : ∀ (k : Nat) {x : Tr}, x.solid → (acw x y k).solid
 | 0, _, hx => hx
 | k + 1, _, hx => ahc hy k ⟨hx, hy⟩
theorem aos {x : Tr} (h : x.solid) (m n : Int) : (aae x m n).solid := by
 unfold aae
 split
 ·exact h
 ·split
  ·exact trivial
  ·have h1 : (if m = 0 then Tr.alt x .eps else x).solid := by split <;> first | exact ⟨h, trivial⟩ | exact h
   have h2 := ahc h (m - 1).toNat h1
   simp only
   split
   ·exact ⟨h2, h⟩
   ·exact ahc (y := .alt x .eps) ⟨h, trivial⟩ _ h2
theorem ama {t : List UInt8} {x y : Tr} {j k : Int} (h : z7 t x j = .ok (y, k)) (hx : x.solid) : y.solid := by
 unfold z7 at h
 split at h
 ·cases h
 ·split at h
  ·cases h
  ·split at h
   ·split at h
    ·cases h
    ·simp only [Except.ok.injEq, Prod.mk.injEq] at h
     rw [← h.1]; exact aos hx _ _
   ·cases h
theorem RP.solid {t : List UInt8} {x : Tr} {j : Int} {r : adv} (h : RP t x j r) : x.solid → ∀ y k, r = .ok (y, k) → y.solid := by
 induction h with
 | zero => intro hx y k e; cases e; exact hx
 | one h1 h2 _ ih =>
  intro hx y k e
  refine ih ?_ y k e
  unfold ai1
  split
  ·exact hx
  ·split
   ·exact ⟨hx, hx⟩
   ·exact ⟨hx, trivial⟩
 | brace h1 h2 h3 _ ih => intro hx y k e; exact ih (ama h3 hx) y k e
 | braceE => intro hx y k e; cases e
def Md.solid : Md → Prop
 | .altL x => x.solid
 | .meetL x => x.solid
 | .row (some x) => x.solid
 | _ => True
theorem aln {acc : Option Tr} {y : Tr} (h : (Md.row acc).solid) (hy : y.solid) : (Md.row (ajk acc y)).solid := by
 cases acc with
 | none => exact hy
 | some x => exact ⟨h, hy⟩
theorem PR.solid {t : List UInt8} {m : Md} {d : Nat} {i : Int} {r : adv} (h : PR t m d i r) : m.solid → ∀ y k, r = .ok (y, k) → y.solid := by
 induction h with
 | alt _ _ ih1 ih2 => intro _ y k e; exact ih2 (ih1 trivial _ _ rfl) y k e
 | altL _ _ _ _ ih1 ih2 => intro h y k e; exact ih2 ⟨h, ih1 trivial _ _ rfl⟩ y k e
 | «meet» _ _ ih1 ih2 => intro _ y k e; exact ih2 (ih1 trivial _ _ rfl) y k e
 | meetL h1 h2 _ _ ih1 ih2 =>
  intro h y k e
  refine ih2 ?_ y k e
  have := ih1 trivial _ _ rfl
  unfold arf
  show Tr.solid _
  split <;> exact ⟨h, this⟩
 | altZ _ => intro h y k e; cases e; exact h
 | meetZ _ => intro h y k e; cases e; exact h
 | @rowZ d acc j _ => intro h y k e; cases e; cases acc <;> first | exact trivial | exact h
 | rowC h1 h2 h3 h4 _ ih => intro h y k e; exact ih (aln h (h4.solid trivial _ _ rfl)) y k e
 | rowP h1 h2 h3 _ h5 h6 _ ih1 ih2 => intro h y k e; exact ih2 (aln h (h6.solid (ih1 trivial _ _ rfl) _ _ rfl)) y k e
 | _ => intro _ y k e; cases e
theorem Tr.solid_some {x : Tr} (h : x.solid) : x.isNone = false := by cases x <;> first | rfl | exact h.elim
theorem ang {t : List UInt8} {j : Int} {s : CS} {k e p : Int} (h : j7 t j = (s, k, e, p)) (hz : ¬ (e = 0 ∧ p = 0)) : 0 < e := by
 unfold j7 at h
 split at h
 ·simp only [Prod.mk.injEq] at h; omega
 ·split at h
  ·simp only [Prod.mk.injEq] at h; omega
  ·simp only [Prod.mk.injEq] at h; omega
theorem aqd {t : List UInt8} {j : Int} {e : Int × Int} (h : ab6 t j = .error e) : 0 < e.1 := by
 unfold ab6 at h
 split at h
 ·cases h; (simp only []; omega)
 ·cases h
theorem ap4 {t : List UInt8} {x : Tr} {j : Int} {e : Int × Int} (h : z7 t x j = .error e) : 0 < e.1 := by
 unfold z7 at h
 split at h
 ·rename_i hm; cases h; exact aqd hm
 ·split at h
  ·rename_i hc
   cases h
   unfold ac0 at hc
   split at hc
   ·split at hc
    ·cases hc
    ·exact aqd hc
   ·cases hc
  ·split at h
   ·split at h
    ·cases h; (simp only []; omega)
    ·cases h
   ·cases h; (simp only []; omega)
theorem RP.err {t : List UInt8} {x : Tr} {j : Int} {r : adv} (h : RP t x j r) : ∀ e, r = .error e → 0 < e.1 := by
 induction h with
 | zero => intro e he; cases he
 | one _ _ _ ih => exact ih
 | brace _ _ _ _ ih => exact ih
 | braceE _ _ h3 => intro e he; cases he; exact ap4 h3
theorem PR.err {t : List UInt8} {m : Md} {d : Nat} {i : Int} {r : adv} (h : PR t m d i r) : ∀ e, r = .error e → 0 < e.1 := by
 induction h with
 | alt _ _ _ ih => exact ih
 | altE _ ih => intro e he; cases he; exact ih _ rfl
 | altL _ _ _ _ _ ih => exact ih
 | altLE _ _ _ ih => intro e he; cases he; exact ih _ rfl
 | altZ => intro e he; cases he
 | «meet» _ _ _ ih => exact ih
 | meetE _ ih => intro e he; cases he; exact ih _ rfl
 | meetL _ _ _ _ _ ih => exact ih
 | meetLE _ _ _ ih => intro e he; cases he; exact ih _ rfl
 | meetZ => intro e he; cases he
 | rowZ => intro e he; cases he
 | rowB => intro e he; cases he; show (0 : Int) < 20; decide
 | rowC _ _ _ _ _ ih => exact ih
 | rowCR _ _ _ h4 => intro e he; cases he; exact h4.err _ rfl
 | rowCE _ _ h3 hz => intro e he; cases he; exact ang h3 hz
 | rowN => intro e he; cases he; show (0 : Int) < 23; decide
 | rowP _ _ _ _ _ _ _ _ ih => exact ih
 | rowPR _ _ _ _ _ h6 => intro e he; cases he; exact h6.err _ rfl
 | rowPE _ _ _ _ ih => intro e he; cases he; exact ih _ rfl
 | rowO => intro e he; cases he; show (0 : Int) < 21; decide
def aoc (t : List UInt8) (R : Except (Int × Int) Tr) : Prop := ∃ q, PR t .alt 0 0 q ∧ match q with
 | .error e => R = .error e
 | .ok (x, k) => if k < t.length then R = .error (20, k) else R = .ok x
theorem aoc.total (t : List UInt8) : ∃ R, aoc t R := by
 obtain ⟨q, hq⟩ := amq t (t.length + 1) 0 (by omega) (by omega) 0
 cases q with
 | error e => exact ⟨_, _, hq, rfl⟩
 | ok p =>
  obtain ⟨x, k⟩ := p
  by_cases hk : k < t.length
  ·exact ⟨.error (20, k), _, hq, by simp only [if_pos hk]⟩
  ·exact ⟨.ok x, _, hq, by simp only [if_neg hk]⟩
theorem aoc.det {t : List UInt8} {R R' : Except (Int × Int) Tr} (h : aoc t R) (h' : aoc t R') : R = R' := by
 obtain ⟨q, h1, h2⟩ := h
 obtain ⟨q', g1, g2⟩ := h'
 obtain rfl := h1.det g1
 cases q with
 | error e => rw [h2, g2]
 | ok p =>
  obtain ⟨x, k⟩ := p
  simp only at h2 g2
  split at h2
  ·rename_i hk; rw [if_pos hk] at g2; rw [h2, g2]
  ·rename_i hk; rw [if_neg hk] at g2; rw [h2, g2]
noncomputable def aer (t : List UInt8) : Except (Int × Int) Tr := Classical.choose (aoc.total t)
theorem afz (t : List UInt8) : aoc t (aer t) := Classical.choose_spec (aoc.total t)
theorem ajn {t : List UInt8} {R : Except (Int × Int) Tr} (h : aoc t R) : aer t = R := (afz t).det h
noncomputable def v7 (t : List UInt8) : Except (Int × Int) Tr :=
 if 1048576 < t.length then .error (1, 0) else match aer t with
  | .error e => .error e
  | .ok x => if 2000 < x.size then .error (24, 0) else .ok x
noncomputable def j8 (t : List UInt8) : Tr := match v7 t with
 | .ok x => x
 | .error _ => .none
noncomputable def p8 (t : List UInt8) : Int × Int := match v7 t with
 | .ok _ => (0, 0)
 | .error e => e
theorem aiu {t : List UInt8} {x : Tr} (h : v7 t = .ok x) : t.length ≤ 1048576 ∧ x.size ≤ 2000 ∧ x.solid ∧ PR t .alt 0 0 (.ok (x, t.length)) := by
 unfold v7 at h
 split at h
 ·cases h
 ·rename_i hl
  split at h
  ·cases h
  ·rename_i y hy
   split at h
   ·cases h
   ·rename_i hz
    obtain rfl : y = x := by injection h
    obtain ⟨q, q1, q2⟩ := hy ▸ afz t
    cases q with
    | error e => cases q2
    | ok p =>
     obtain ⟨z, k⟩ := p
     simp only at q2
     have hk := q1.ends (by omega) (by omega) _ _ rfl
     split at q2
     ·cases q2
     ·obtain rfl : y = z := by injection q2
      refine ⟨by omega, by omega, q1.solid trivial _ _ rfl, ?_⟩
      rw [show (t.length : Int) = k by omega]; exact q1
theorem arp {t : List UInt8} {e : Int × Int} (h : v7 t = .error e) : 0 < e.1 := by
 unfold v7 at h
 split at h
 ·cases h; (simp only []; omega)
 ·split at h
  ·rename_i e' hy
   cases h
   obtain ⟨q, q1, q2⟩ := hy ▸ afz t
   cases q with
   | error e2 => cases q2; exact q1.err _ rfl
   | ok p =>
    obtain ⟨z, k⟩ := p
    simp only at q2
    split at q2
    ·cases q2; (simp only []; omega)
    ·cases q2
  ·split at h
   ·cases h; (simp only []; omega)
   ·cases h
theorem auc {t : List UInt8} (h : (p8 t).1 = 0) : ∃ x, v7 t = .ok x ∧ j8 t = x := by
 unfold p8 at h
 unfold j8
 cases hp : v7 t with
 | ok x => exact ⟨x, rfl, rfl⟩
 | error e => rw [hp] at h; have := arp hp; simp only at h; omega
theorem av6 {t : List UInt8} (h : (p8 t).1 ≠ 0) : v7 t = .error (p8 t) ∧ j8 t = .none := by
 unfold p8 at h ⊢
 unfold j8
 cases hp : v7 t with
 | ok x => rw [hp] at h; exact absurd rfl h
 | error e => exact ⟨rfl, rfl⟩
theorem at2 {t : List UInt8} {x : Tr} (h : v7 t = .ok x) : p8 t = (0, 0) ∧ j8 t = x := by
 unfold p8 j8; rw [h]; exact ⟨rfl, rfl⟩
end Go.Proofs.YtohnchdnkbadaaaDoor
namespace Go.Proofs.YtohnchdnkbadaaaDoor
open Go Go.RowKit
abbrev ND := Int × (Nat → Bool) × Int × Int × Int × Int
def ndZ : ND := (0, fun _ => false, 0, 0, 0, 0)
def ndC (d : ND) : List Value := [Value.int .i64 d.1] ++ arr 256 (fun j => Value.bool (d.2.1 j)) ++ [Value.int .i64 d.2.2.1, Value.int .i64 d.2.2.2.1, Value.int .i64 d.2.2.2.2.1, Value.int .i64 d.2.2.2.2.2]
theorem n7 (d : ND) : (ndC d).length = 261 := by simp [ndC, d7]
theorem agk (d : ND) : (ndC d)[0]? = some (.int .i64 d.1) := rfl
theorem ah2 (d : ND) (k : Nat) : (ndC d)[257 + k]? = ([Value.int .i64 d.2.2.1, Value.int .i64 d.2.2.2.1, Value.int .i64 d.2.2.2.2.1, Value.int .i64 d.2.2.2.2.2] : List Value)[k]? := by
 unfold ndC
 rw [List.getElem?_append_right (by simp [d7])]
 simp [d7]
theorem aao (d : ND) : (ndC d)[257]? = some (.int .i64 d.2.2.1) := ah2 d 0
theorem acp (d : ND) : (ndC d)[258]? = some (.int .i64 d.2.2.2.1) := ah2 d 1
theorem at3 (d : ND) : (ndC d)[259]? = some (.int .i64 d.2.2.2.2.1) := ah2 d 2
theorem ah3 (d : ND) : (ndC d)[260]? = some (.int .i64 d.2.2.2.2.2) := ah2 d 3
theorem at1 (d : ND) : ((ndC d).drop 1).take (arr 256 (fun j => Value.bool (d.2.1 j))).length = arr 256 (fun j => Value.bool (d.2.1 j)) := by
 rw [d7]
 show (arr 256 (fun j => Value.bool (d.2.1 j)) ++ _).take 256 = _
 exact List.take_left' (d7 _ _)
theorem ac1 (d : ND) : (ndC d).all (·.oneCell') = true := by
 unfold ndC
 rw [List.all_append, List.all_append]
 simp [arr, Value.oneCell']
theorem afi {α : Type} (f : α → List Value) (x : α) : f x = [x].flatMap f := by simp
abbrev FR := Int × Int × Int × Int × Int × Int
def frC (f : FR) : List Value := [Value.int .i64 f.1, Value.int .i64 f.2.1, Value.int .i64 f.2.2.1, Value.int .u8 f.2.2.2.1, Value.int .i64 f.2.2.2.2.1, Value.int .i64 f.2.2.2.2.2]
theorem m8 (f : FR) : (frC f).length = 6 := rfl
def nd (n : List ND) (i : Int) : ND := n.getD i.toNat default
def ako (op : Int) (x y : Tr) : Tr := if op = 2 then .cat x y else if op = 3 then .alt x y else if op = 5 then .and x y else .minus x y
def aim (x : Tr) (m k : Int) : Tr := if m = -2 then aae x 1 (-1) else aae x m k
def agu (m k : Int) : Prop := (m = -2 ∧ k = -1) ∨ (0 ≤ m ∧ m ≤ 255 ∧ -1 ≤ k ∧ k ≤ 255 ∧ (k < 0 ∨ m ≤ k))
inductive Den (n : List ND) : Int → Tr → Prop
 | eps {i : Int} : 0 ≤ i → i < n.length → (nd n i).1 = 0 → (∀ j, j < 256 → (nd n i).2.1 j = false) → Den n i .eps
 | cls {i : Int} {s : CS} : 0 ≤ i → i < n.length → (nd n i).1 = 1 → (∀ j, j < 256 → (nd n i).2.1 j = s.getLsbD j) → Den n i (.cls s)
 | bin {i op : Int} {x y : Tr} : 0 ≤ i → i < n.length → (nd n i).1 = op → op = 2 ∨ op = 3 ∨ op = 5 ∨ op = 6 → (nd n i).2.2.1 < i → (nd n i).2.2.2.1 < i → Den n (nd n i).2.2.1 x → Den n (nd n i).2.2.2.1 y → Den n i (ako op x y)
 | star {i : Int} {x : Tr} : 0 ≤ i → i < n.length → (nd n i).1 = 4 → (nd n i).2.2.1 < i → Den n (nd n i).2.2.1 x → Den n i (.star x)
 | rep {i : Int} {x : Tr} : 0 ≤ i → i < n.length → (nd n i).1 = 7 → (nd n i).2.2.1 < i → agu (nd n i).2.2.2.2.1 (nd n i).2.2.2.2.2 → Den n (nd n i).2.2.1 x → Den n i (aim x (nd n i).2.2.2.2.1 (nd n i).2.2.2.2.2)
theorem Den.lt {n : List ND} {i : Int} {x : Tr} (h : Den n i x) : 0 ≤ i ∧ i < n.length := by cases h <;> exact ⟨by assumption, by assumption⟩
theorem ad3 {n : List ND} (l : List ND) {i : Int} (h0 : 0 ≤ i) (h : i < n.length) : nd (n ++ l) i = nd n i := by
 unfold nd
 rw [List.getD_eq_getElem?_getD, List.getD_eq_getElem?_getD, List.getElem?_append_left (by omega)]
theorem ad2 (n : List ND) (d : ND) : nd (n ++ [d]) n.length = d := by
 unfold nd; simp [List.getD_eq_getElem?_getD]
theorem Den.more {n : List ND} (l : List ND) {i : Int} {x : Tr} (h : Den n i x) : Den (n ++ l) i x := by
 induction h with
 | eps h0 h1 h2 h3 => exact .eps h0 (by simp; omega) (by rw [ad3 l h0 h1]; exact h2) (by rw [ad3 l h0 h1]; exact h3)
 | cls h0 h1 h2 h3 => exact .cls h0 (by simp; omega) (by rw [ad3 l h0 h1]; exact h2) (by rw [ad3 l h0 h1]; exact h3)
 | bin h0 h1 h2 h3 h4 h5 _ _ ih1 ih2 => have e := ad3 l h0 h1; exact .bin h0 (by simp; omega) (by rw [e]; exact h2) h3 (by rw [e]; exact h4) (by rw [e]; exact h5) (by rw [e]; exact ih1) (by rw [e]; exact ih2)
 | star h0 h1 h2 h3 _ ih => have e := ad3 l h0 h1; exact .star h0 (by simp; omega) (by rw [e]; exact h2) (by rw [e]; exact h3) (by rw [e]; exact ih)
 | rep h0 h1 h2 h3 h4 _ ih => have e := ad3 l h0 h1; rw [← e]; exact .rep h0 (by simp; omega) (by rw [e]; exact h2) (by rw [e]; exact h3) (by rw [e]; exact h4) (by rw [e]; exact ih)
theorem aod (n : List ND) : Den (n ++ [(0, fun _ => false, 0, 0, 0, 0)]) n.length .eps := .eps (by omega) (by simp; omega) (by rw [ad2]) (by rw [ad2]; exact fun _ _ => rfl)
theorem atl (n : List ND) {f : Nat → Bool} {s : CS} (h : ∀ j, j < 256 → f j = s.getLsbD j) : Den (n ++ [(1, f, 0, 0, 0, 0)]) n.length (.cls s) := .cls (by omega) (by simp; omega) (by rw [ad2]) (by rw [ad2]; exact h)
theorem ajo {n : List ND} {op a b : Int} {x y : Tr} (ho : op = 2 ∨ op = 3 ∨ op = 5 ∨ op = 6) (hx : Den n a x) (hy : Den n b y) : Den (n ++ [(op, fun _ => false, a, b, 0, 0)]) n.length (ako op x y) := by
 have e := ad2 n (op, fun _ => false, a, b, 0, 0)
 exact .bin (by omega) (by simp; omega) (by rw [e]) ho (by rw [e]; exact hx.lt.2) (by rw [e]; exact hy.lt.2) (by rw [e]; exact hx.more _) (by rw [e]; exact hy.more _)
theorem ayr {n : List ND} {a m k : Int} {x : Tr} (hb : agu m k) (hx : Den n a x) : Den (n ++ [(7, fun _ => false, a, 0, m, k)]) n.length (aim x m k) := by
 have e := ad2 n (7, fun _ => false, a, 0, m, k)
 have := Den.rep (n := n ++ [(7, fun _ => false, a, 0, m, k)]) (i := n.length) (x := x) (by omega) (by simp; omega) (by rw [e]) (by rw [e]; exact hx.lt.2) (by rw [e]; exact hb) (by rw [e]; exact hx.more _)
 rw [e] at this; exact this
def NOK (n : List ND) : Prop := ∀ i : Int, 0 ≤ i → i < n.length → (nd n i).1 ≠ 4 ∧ ∃ x, Den n i x
theorem NOK.snoc {n : List ND} {d : ND} {x : Tr} (h : NOK n) (hx : Den (n ++ [d]) n.length x) (h4 : d.1 ≠ 4 := by first | decide | (simp only []; omega)) : NOK (n ++ [d]) := fun i h0 h1 => by
 by_cases hi : i < n.length
 ·obtain ⟨y0, y, hy⟩ := h i h0 hi; exact ⟨by rw [ad3 _ h0 hi]; exact y0, y, hy.more _⟩
 ·have : i = n.length := by simp at h1; omega
  rw [this]; exact ⟨by rw [ad2]; exact h4, x, hx⟩
theorem ack (op : Int) (x y : Tr) : (ako op x y).size = 1 + x.size + y.size := by
 unfold ako
 split
 ·rfl
 ·split
  ·rfl
  ·split <;> rfl
theorem Den.det {n : List ND} {i : Int} {x : Tr} (h : Den n i x) : ∀ {y : Tr}, Den n i y → x = y := by
 induction h with
 | eps _ _ h2 =>
  intro y h'
  cases h' with
  | eps => rfl
  | cls _ _ g2 => omega
  | bin _ _ g2 g3 => omega
  | star _ _ g2 => omega
  | rep _ _ g2 => omega
 | cls _ _ h2 h3 =>
  intro y h'
  cases h' with
  | eps _ _ g2 => omega
  | cls _ _ _ g3 =>
   congr 1
   apply BitVec.eq_of_getLsbD_eq
   intro j hj
   rw [← h3 j hj, g3 j hj]
  | bin _ _ g2 g3 => omega
  | star _ _ g2 => omega
  | rep _ _ g2 => omega
 | bin _ _ h2 h3 _ _ _ _ ih1 ih2 =>
  intro y h'
  cases h' with
  | eps _ _ g2 => omega
  | cls _ _ g2 => omega
  | bin _ _ g2 _ _ _ g6 g7 => rw [ih1 g6, ih2 g7, ← h2, ← g2]
  | star _ _ g2 => omega
  | rep _ _ g2 => omega
 | star _ _ h2 _ _ ih =>
  intro y h'
  cases h' with
  | eps _ _ g2 => omega
  | cls _ _ g2 => omega
  | bin _ _ g2 g3 => omega
  | star _ _ _ _ g4 => rw [ih g4]
  | rep _ _ g2 => omega
 | rep _ _ h2 _ _ _ ih =>
  intro y h'
  cases h' with
  | eps _ _ g2 => omega
  | cls _ _ g2 => omega
  | bin _ _ g2 g3 => omega
  | star _ _ g2 => omega
  | rep _ _ _ _ _ g5 => rw [ih g5]
def IxR (n : List ND) (i : Int) : Option Tr → Prop
 | none => i = -1
 | some x => Den n i x
theorem IxR.more {n : List ND} (l : List ND) {i : Int} {o : Option Tr} (h : IxR n i o) : IxR (n ++ l) i o := by
 cases o with
 | none => exact h
 | some x => exact Den.more l h
theorem IxR.neg {n : List ND} {i : Int} {o : Option Tr} (h : IxR n i o) (hi : i < 0) : o = none ∧ i = -1 := by
 cases o with
 | none => exact ⟨rfl, h⟩
 | some x => have := Den.lt h; omega
theorem IxR.pos {n : List ND} {i : Int} {o : Option Tr} (h : IxR n i o) (hi : ¬ i < 0) : ∃ x, o = some x ∧ Den n i x := by
 cases o with
 | none => have : i = -1 := h; omega
 | some x => exact ⟨x, rfl, h⟩
def FrR (n : List ND) (f : FR) (a : AF) : Prop := f.1 = a.place ∧ IxR n f.2.1 a.alt ∧ IxR n f.2.2.1 a.meet ∧ f.2.2.2.1 = a.sign ∧ IxR n f.2.2.2.2.1 a.row ∧ IxR n f.2.2.2.2.2 a.fac
theorem FrR.more {n : List ND} (l : List ND) {f : FR} {a : AF} (h : FrR n f a) : FrR (n ++ l) f a := ⟨h.1, h.2.1.more l, h.2.2.1.more l, h.2.2.2.1, h.2.2.2.2.1.more l, h.2.2.2.2.2.more l⟩
def ajj (n : List ND) : List FR → List AF → Prop
 | [], [] => True
 | f :: fs, a :: cs => FrR n f a ∧ ajj n fs cs
 | _, _ => False
theorem ajj.more {n : List ND} (l : List ND) : ∀ {fs : List FR} {cs : List AF}, ajj n fs cs → ajj (n ++ l) fs cs
 | [], [], _ => trivial
 | _ :: _, _ :: _, h => ⟨h.1.more l, h.2.more l⟩
 | [], _ :: _, h => h.elim
 | _ :: _, [], h => h.elim
def y6 (n : List ND) (s : List FR) (cs : List AF) : Prop := ajj n s.reverse cs
theorem y6.snoc {n : List ND} {pre : List FR} {f : FR} {a : AF} {rest : List AF} : y6 n (pre ++ [f]) (a :: rest) ↔ FrR n f a ∧ y6 n pre rest := by
 unfold y6; rw [List.reverse_append]; exact Iff.rfl
theorem y6.len {n : List ND} : ∀ {fs : List FR} {cs : List AF}, ajj n fs cs → fs.length = cs.length
 | [], [], _ => rfl
 | _ :: _, _ :: _, h => by simp [y6.len h.2]
 | [], _ :: _, h => h.elim
 | _ :: _, [], h => h.elim
theorem abk {α : Type} {s : List α} (h : 0 < s.length) : ∃ pre f, s = pre ++ [f] := by
 cases hr : s.reverse with
 | nil => have := congrArg List.length hr; simp at this; subst this; simp at h
 | cons a r => exact ⟨r.reverse, a, by rw [← List.reverse_reverse s, hr]; simp⟩
theorem ae2 {α : Type} (pre : List α) (f : α) : ((((pre ++ [f]).length : Int) - 1)).toNat = pre.length := by simp
theorem aat {α : Type} [Inhabited α] (pre : List α) (f : α) : (pre ++ [f]).getD pre.length default = f := by simp [List.getD_eq_getElem?_getD]
theorem aa9 {α : Type} (pre : List α) (f g : α) : (pre ++ [f]).set pre.length g = pre ++ [g] := by simp
end Go.Proofs.YtohnchdnkbadaaaDoor
