/-
  Merged: RxV, TiedR, RxT, RfD.
-/
import Derived.Test.YtohnchdnkbadaaaDoorRows
import Derived.Test.YtohnchdnkbadaaaDoorCards
import Derived.Test.YtohnchdnkbadaaaDoorTie
import Derived.Test.YtohnchdnkbadaaaDoorPd4
set_option maxRecDepth 100000
namespace Go.Proofs.YtohnchdnkbadaaaDoor
open Go Go.RowKit
theorem ae8 : Program.concrete Tryd.prog 87 = true := by kernel_rfl
theorem ahf : m5 Tryd.prog 51 0 = some 0 := by kernel_rfl
theorem n7 : abl Tryd.prog 23 = true := by kernel_rfl
theorem ahi : m5 Tryd.prog 51 1 = some 1 := by kernel_rfl
theorem af0 : m5 Tryd.prog 165 0 = some 0 := by kernel_rfl
theorem af4 : m5 Tryd.prog 165 1 = some 1 := by kernel_rfl
theorem agk : m5 Tryd.prog 167 0 = some 0 := by kernel_rfl
theorem agm : m5 Tryd.prog 163 0 = some 0 := by kernel_rfl
theorem ago : m5 Tryd.prog 163 1 = some 1 := by kernel_rfl
theorem agd : m5 Tryd.prog 164 0 = some 0 := by kernel_rfl
theorem agn : m5 Tryd.prog 164 1 = some 1 := by kernel_rfl
theorem aa7 : aem Tryd.prog 163 = true := by kernel_rfl
theorem ace : af5 Tryd.prog 163 = some (Value.agg [Tr.val Tr.none, Tr.val Tr.none].toArray) := by kernel_rfl
theorem ab6 : aem Tryd.prog 164 = true := by kernel_rfl
theorem adi : af5 Tryd.prog 164 = some (Value.agg [Tr.val Tr.none, Tr.val Tr.none].toArray) := by kernel_rfl
theorem abx : aem Tryd.prog 51 = true := by kernel_rfl
theorem ac9 : af5 Tryd.prog 51 = some (Value.agg [Tr.val Tr.none, Tr.val Tr.none].toArray) := by kernel_rfl
theorem aak : aem Tryd.prog 165 = true := by kernel_rfl
theorem aa5 : af5 Tryd.prog 165 = some (Value.agg [Tr.val Tr.none, Tr.val Tr.none].toArray) := by kernel_rfl
theorem aeo : aem Tryd.prog 167 = true := by kernel_rfl
theorem ajg : af5 Tryd.prog 167 = some (Value.agg [Tr.val Tr.none].toArray) := by kernel_rfl
theorem amk : abt Tryd.prog 51 = some [Tr.val Tr.none, Tr.val Tr.none] := by kernel_rfl
theorem al8 : u5 Tryd.prog 51 2 = true := by kernel_rfl
theorem ajy : abt Tryd.prog 165 = some [Tr.val Tr.none, Tr.val Tr.none] := by kernel_rfl
theorem akl : u5 Tryd.prog 165 2 = true := by kernel_rfl
theorem aj5 : abt Tryd.prog 167 = some [Tr.val Tr.none] := by kernel_rfl
theorem akc : u5 Tryd.prog 167 1 = true := by kernel_rfl
theorem aaw : o9 Tryd.prog 55 = true := by kernel_rfl
theorem ahv : Program.concrete Tryd.prog 51 = true := by kernel_rfl
theorem aj2 : Program.concrete Tryd.prog 165 = true := by kernel_rfl
theorem akw : Program.concrete Tryd.prog 167 = true := by kernel_rfl
theorem aki : abt Tryd.prog 163 = some [Tr.val Tr.none, Tr.val Tr.none] := by kernel_rfl
theorem akf : u5 Tryd.prog 163 2 = true := by kernel_rfl
theorem akd : Program.concrete Tryd.prog 163 = true := by kernel_rfl
theorem ako : abt Tryd.prog 164 = some [Tr.val Tr.none, Tr.val Tr.none] := by kernel_rfl
theorem aka : u5 Tryd.prog 164 2 = true := by kernel_rfl
theorem akk : Program.concrete Tryd.prog 164 = true := by kernel_rfl
theorem ada : aem Tryd.prog 49 = true := by kernel_rfl
theorem ad2 : af5 Tryd.prog 49 = some (Value.agg [].toArray) := by kernel_rfl
theorem ad0 : aem Tryd.prog 87 = true := by kernel_rfl
theorem aez : af5 Tryd.prog 87 = some (Value.agg (wl cs0).toArray) := by kernel_rfl
theorem ar2 : abt Tryd.prog 49 = some [] := by kernel_rfl
theorem ar1 : u5 Tryd.prog 49 0 = true := by kernel_rfl
theorem alu : abt Tryd.prog 87 = some (wl cs0) := by kernel_rfl
theorem amr : u5 Tryd.prog 87 4 = true := by kernel_rfl
theorem anj : m5 Tryd.prog 87 0 = some 0 := by kernel_rfl
theorem au1 : o9 Tryd.prog 86 = true := by kernel_rfl
theorem aa4 : o9 Tryd.prog 51 = true := by kernel_rfl
theorem d4.ofPureE {f : FuncId} {vs : List Value} {v : Value} (te : TypeId) (fre : Nat × Nat) (h : ai3 f vs.toArray v) : d4 Tryd.prog f vs (y9 te fre) [] (Ret v []) := fun w M hO hn _ hr => by
 have : M = [] := hO
 subst this
 refine (h w ⟨te, fre, (hr (1, .cells abe te fre) (List.mem_singleton.2 rfl)).1⟩).mono ?_
 rintro en w' ⟨rfl, hb⟩
 exact ⟨[], .inl ⟨v, rfl, rfl⟩, (Hp.start 0 [] w (H := []) rfl hn (fun k hk => by cases hk) hr).below hb⟩
theorem Tr.val_one (x : Tr) : x.val.oneCell' = true := by cases x <;> rfl
theorem Tr.val_cells (x : Tr) : x.val.cells = [x.val].toArray := aow x.val_one
def aea : Tr → Int
 | .alt _ _ => 0
 | .and _ _ | .minus _ _ => 1
 | .cat _ _ => 2
 | .star _ => 3
 | _ => 4
def aey (x : Tr) (n : Int) (s : List UInt8) : List UInt8 := if aea x < n then [40] ++ s ++ [41] else s
def o4 : Tr → List UInt8
 | .none => [91, 93]
 | .eps => [40, 41]
 | .cls s => u1 s
 | .alt a b => (aey a 0 (o4 a) ++ [124]) ++ aey b 1 (o4 b)
 | .and a b => (aey a 1 (o4 a) ++ [38]) ++ aey b 2 (o4 b)
 | .minus a b => (aey a 1 (o4 a) ++ [45]) ++ aey b 2 (o4 b)
 | .cat a b => aey a 2 (o4 a) ++ aey b 3 (o4 b)
 | .star a => aey a 3 (o4 a) ++ [42]
def b7 (x : Tr) (n : Int) : List UInt8 := aey x n (o4 x)
theorem adz (x : Tr) (n : Int) (s : List UInt8) : (aey x n s).length ≤ s.length + 2 := by
 unfold aey; split <;> simp
def aiu  (K : Tr → Prop) : Prop :=
 K (.cls cs0)
theorem apm   (K : Tr → Prop) (h : aiu  K) :
  d4 Tryd.prog 55 [Tr.val Tr.none] [] [] (fun o => (∃ (v : Tr), K v ∧ o = .ret (Tr.val v) []) ∨ (False)) := by
 unfold aiu at h
 refine c8 (n := 66) (L0 := [(0, Tr.val Tr.none)]) Tryd.func55 rfl rfl rfl rfl (fun w0 M Q hE => ?_)
 refine a6 (fun _ hK => ?_)
 refine a4 ?_
 refine wa ?_
 refine WL.nil ?_
 refine kg (hK [(0, Tr.val Tr.none)] _ ?_)
 refine a6 (fun _ hK_1' => ?_)
 refine a6 (fun _ hK_2' => ?_)
 refine a4 ?_
 refine wm ?_
 refine WL.nil ?_
 refine kg (hK_2' [(0, Tr.val Tr.none), (9, Tr.val Tr.none)] _ ?_)
 refine d8 ?_
 refine a6 (fun _ hK_3' => ?_)
 refine a4 ?_
 refine wv (OV.eqlNil0 rfl Tryd.underlying23) ?_
 refine WL.nil ?_
 refine kg (hK_3' [(0, Tr.val Tr.none), (9, Tr.val Tr.none), (10, zB true)] _ ?_)
 refine v7 rfl ?_
 refine a6 (fun _ hK_4' => ?_)
 refine a4 ?_
 refine wa ?_
 refine WL.nil ?_
 refine KX.go (hK_4' [] _ ?_) trivial
 refine a6 (fun _ hK_5' => ?_)
 refine a4 ?_
 refine wv (OV.build rfl (cs := wl cs0) rfl) ?_
 refine wv (OV.cast (OV.iface rfl ae8) (v' := Tr.val (.cls cs0)) rfl) ?_
 refine wa ?_
 refine WL.nil ?_
 refine kg (hK_5' [(2, Tr.val (.cls cs0))] _ ?_)
 refine b9 ?_
 exact hE.ret [] rfl rfl (.inl ⟨_, h, rfl⟩) (f9.of1 rfl (RV.tmp rfl))
def aku  (K : Tr → Prop) : Prop :=
 K .eps
theorem aqo   (K : Tr → Prop) (h : aku  K) :
  d4 Tryd.prog 55 [Tr.val .eps] [] [] (fun o => (∃ (v : Tr), K v ∧ o = .ret (Tr.val v) []) ∨ (False)) := by
 unfold aku at h
 refine c8 (n := 66) (L0 := [(0, Tr.val .eps)]) Tryd.func55 rfl rfl rfl rfl (fun w0 M Q hE => ?_)
 refine a6 (fun _ hK => ?_)
 refine a4 ?_
 refine wa ?_
 refine WL.nil ?_
 refine kg (hK [(0, Tr.val .eps)] _ ?_)
 refine a6 (fun _ hK_1' => ?_)
 refine a6 (fun _ hK_2' => ?_)
 refine a4 ?_
 refine wm ?_
 refine WL.nil ?_
 refine kg (hK_2' [(0, Tr.val .eps), (9, Tr.val .eps)] _ ?_)
 refine d8 ?_
 refine a6 (fun _ hK_3' => ?_)
 refine a4 ?_
 refine wv (OV.eqlNil (v := Value.agg [].toArray) rfl rfl Tryd.underlying23) ?_
 refine WL.nil ?_
 refine kg (hK_3' [(0, Tr.val .eps), (9, Tr.val .eps), (10, zB false)] _ ?_)
 refine g9 rfl ?_
 refine a6 (fun _ hK_4' => ?_)
 refine a4 ?_
 refine wv (OV.assertNo (t2 := 49) (v := Value.agg [].toArray) rfl abx ac9 rfl) ?_
 refine wv (OV.extract 1 rfl rfl) ?_
 refine wv (OV.extract 0 rfl rfl) ?_
 refine WL.nil ?_
 refine kg (hK_4' [(0, Tr.val .eps), (9, Tr.val .eps), (14, zB false), (15, Value.agg [Tr.val Tr.none, Tr.val Tr.none].toArray)] _ ?_)
 refine g9 rfl ?_
 refine a6 (fun _ hK_5' => ?_)
 refine a4 ?_
 refine wv (OV.assertNo (t2 := 49) (v := Value.agg [].toArray) rfl aak aa5 rfl) ?_
 refine wv (OV.extract 1 rfl rfl) ?_
 refine wv (OV.extract 0 rfl rfl) ?_
 refine WL.nil ?_
 refine kg (hK_5' [(0, Tr.val .eps), (9, Tr.val .eps), (25, zB false), (26, Value.agg [Tr.val Tr.none, Tr.val Tr.none].toArray)] _ ?_)
 refine g9 rfl ?_
 refine a6 (fun _ hK_6' => ?_)
 refine a4 ?_
 refine wv (OV.assertNo (t2 := 49) (v := Value.agg [].toArray) rfl aa7 ace rfl) ?_
 refine wv (OV.extract 1 rfl rfl) ?_
 refine wv (OV.extract 0 rfl rfl) ?_
 refine WL.nil ?_
 refine kg (hK_6' [(0, Tr.val .eps), (9, Tr.val .eps), (36, zB false), (37, Value.agg [Tr.val Tr.none, Tr.val Tr.none].toArray)] _ ?_)
 refine g9 rfl ?_
 refine a6 (fun _ hK_7' => ?_)
 refine a4 ?_
 refine wv (OV.assertNo (t2 := 49) (v := Value.agg [].toArray) rfl ab6 adi rfl) ?_
 refine wv (OV.extract 1 rfl rfl) ?_
 refine wv (OV.extract 0 rfl rfl) ?_
 refine WL.nil ?_
 refine kg (hK_7' [(0, Tr.val .eps), (9, Tr.val .eps), (47, zB false), (48, Value.agg [Tr.val Tr.none, Tr.val Tr.none].toArray)] _ ?_)
 refine g9 rfl ?_
 refine a6 (fun _ hK_8' => ?_)
 refine a4 ?_
 refine wv (OV.assertNo (t2 := 49) (v := Value.agg [].toArray) rfl aeo ajg rfl) ?_
 refine wv (OV.extract 1 rfl rfl) ?_
 refine wv (OV.extract 0 rfl rfl) ?_
 refine WL.nil ?_
 refine kg (hK_8' [(0, Tr.val .eps), (58, zB false), (59, Value.agg [Tr.val Tr.none].toArray)] _ ?_)
 refine g9 rfl ?_
 refine b8 ?_
 refine kg (hK_1' [(0, Tr.val .eps)] _ ?_)
 refine a6 (fun _ hK_9' => ?_)
 refine a4 ?_
 refine wm ?_
 refine wa ?_
 refine WL.nil ?_
 refine kg (hK_9' [(2, Tr.val .eps)] _ ?_)
 refine b9 ?_
 exact hE.ret [] rfl rfl (.inl ⟨_, h, rfl⟩) (f9.of1 rfl (RV.tmp rfl))
def aj6 (xs : CS) (K : Tr → Prop) : Prop :=
 K (.cls xs)
theorem aqi  (xs : CS) (K : Tr → Prop) (h : aj6 xs K) :
  d4 Tryd.prog 55 [Tr.val (.cls xs)] [] [] (fun o => (∃ (v : Tr), K v ∧ o = .ret (Tr.val v) []) ∨ (False)) := by
 unfold aj6 at h
 refine c8 (n := 66) (L0 := [(0, Tr.val (.cls xs))]) Tryd.func55 rfl rfl rfl rfl (fun w0 M Q hE => ?_)
 refine a6 (fun _ hK => ?_)
 refine a4 ?_
 refine wa ?_
 refine WL.nil ?_
 refine kg (hK [(0, Tr.val (.cls xs))] _ ?_)
 refine a6 (fun _ hK_1' => ?_)
 refine a6 (fun _ hK_2' => ?_)
 refine a4 ?_
 refine wm ?_
 refine WL.nil ?_
 refine kg (hK_2' [(0, Tr.val (.cls xs)), (9, Tr.val (.cls xs))] _ ?_)
 refine d8 ?_
 refine a6 (fun _ hK_3' => ?_)
 refine a4 ?_
 refine wv (OV.eqlNil (v := Value.agg (wl xs).toArray) rfl rfl Tryd.underlying23) ?_
 refine WL.nil ?_
 refine kg (hK_3' [(0, Tr.val (.cls xs)), (9, Tr.val (.cls xs)), (10, zB false)] _ ?_)
 refine g9 rfl ?_
 refine a6 (fun _ hK_4' => ?_)
 refine a4 ?_
 refine wv (OV.assertNo (t2 := 87) (v := Value.agg (wl xs).toArray) rfl abx ac9 rfl) ?_
 refine wv (OV.extract 1 rfl rfl) ?_
 refine wv (OV.extract 0 rfl rfl) ?_
 refine WL.nil ?_
 refine kg (hK_4' [(0, Tr.val (.cls xs)), (9, Tr.val (.cls xs)), (14, zB false), (15, Value.agg [Tr.val Tr.none, Tr.val Tr.none].toArray)] _ ?_)
 refine g9 rfl ?_
 refine a6 (fun _ hK_5' => ?_)
 refine a4 ?_
 refine wv (OV.assertNo (t2 := 87) (v := Value.agg (wl xs).toArray) rfl aak aa5 rfl) ?_
 refine wv (OV.extract 1 rfl rfl) ?_
 refine wv (OV.extract 0 rfl rfl) ?_
 refine WL.nil ?_
 refine kg (hK_5' [(0, Tr.val (.cls xs)), (9, Tr.val (.cls xs)), (25, zB false), (26, Value.agg [Tr.val Tr.none, Tr.val Tr.none].toArray)] _ ?_)
 refine g9 rfl ?_
 refine a6 (fun _ hK_6' => ?_)
 refine a4 ?_
 refine wv (OV.assertNo (t2 := 87) (v := Value.agg (wl xs).toArray) rfl aa7 ace rfl) ?_
 refine wv (OV.extract 1 rfl rfl) ?_
 refine wv (OV.extract 0 rfl rfl) ?_
 refine WL.nil ?_
 refine kg (hK_6' [(0, Tr.val (.cls xs)), (9, Tr.val (.cls xs)), (36, zB false), (37, Value.agg [Tr.val Tr.none, Tr.val Tr.none].toArray)] _ ?_)
 refine g9 rfl ?_
 refine a6 (fun _ hK_7' => ?_)
 refine a4 ?_
 refine wv (OV.assertNo (t2 := 87) (v := Value.agg (wl xs).toArray) rfl ab6 adi rfl) ?_
 refine wv (OV.extract 1 rfl rfl) ?_
 refine wv (OV.extract 0 rfl rfl) ?_
 refine WL.nil ?_
 refine kg (hK_7' [(0, Tr.val (.cls xs)), (9, Tr.val (.cls xs)), (47, zB false), (48, Value.agg [Tr.val Tr.none, Tr.val Tr.none].toArray)] _ ?_)
 refine g9 rfl ?_
 refine a6 (fun _ hK_8' => ?_)
 refine a4 ?_
 refine wv (OV.assertNo (t2 := 87) (v := Value.agg (wl xs).toArray) rfl aeo ajg rfl) ?_
 refine wv (OV.extract 1 rfl rfl) ?_
 refine wv (OV.extract 0 rfl rfl) ?_
 refine WL.nil ?_
 refine kg (hK_8' [(0, Tr.val (.cls xs)), (58, zB false), (59, Value.agg [Tr.val Tr.none].toArray)] _ ?_)
 refine g9 rfl ?_
 refine b8 ?_
 refine kg (hK_1' [(0, Tr.val (.cls xs))] _ ?_)
 refine a6 (fun _ hK_9' => ?_)
 refine a4 ?_
 refine wm ?_
 refine wa ?_
 refine WL.nil ?_
 refine kg (hK_9' [(2, Tr.val (.cls xs))] _ ?_)
 refine b9 ?_
 exact hE.ret [] rfl rfl (.inl ⟨_, h, rfl⟩) (f9.of1 rfl (RV.tmp rfl))
def aj3 (xa : Tr) (xb : Tr) (K : Tr → Prop) : Prop :=
 (d4 Tryd.prog 55 [Tr.val xa] [] [] (Ret (Tr.val xa.whole) [])) ∧
 (d4 Tryd.prog 55 [Tr.val xb] [] [] (Ret (Tr.val xb.whole) [])) ∧
 K (.cat xa.whole xb.whole)
theorem aro  (xa : Tr) (xb : Tr) (K : Tr → Prop) (h : aj3 xa xb K) :
  d4 Tryd.prog 55 [Tr.val (.cat xa xb)] [] [] (fun o => (∃ (v : Tr), K v ∧ o = .ret (Tr.val v) []) ∨ (False)) := by
 unfold aj3 at h
 refine c8 (n := 66) (L0 := [(0, Tr.val (.cat xa xb))]) Tryd.func55 rfl rfl rfl rfl (fun w0 M Q hE => ?_)
 refine a6 (fun _ hK => ?_)
 refine a4 ?_
 refine wa ?_
 refine WL.nil ?_
 refine kg (hK [(0, Tr.val (.cat xa xb))] _ ?_)
 refine a6 (fun _ hK_1' => ?_)
 refine a6 (fun _ hK_2' => ?_)
 refine a4 ?_
 refine wm ?_
 refine WL.nil ?_
 refine kg (hK_2' [(0, Tr.val (.cat xa xb)), (9, Tr.val (.cat xa xb))] _ ?_)
 refine d8 ?_
 refine a6 (fun _ hK_3' => ?_)
 refine a4 ?_
 refine wv (OV.eqlNil (v := Value.agg [Tr.val xa, Tr.val xb].toArray) rfl rfl Tryd.underlying23) ?_
 refine WL.nil ?_
 refine kg (hK_3' [(0, Tr.val (.cat xa xb)), (9, Tr.val (.cat xa xb)), (10, zB false)] _ ?_)
 refine g9 rfl ?_
 refine a6 (fun _ hK_4' => ?_)
 refine a4 ?_
 refine wv (OV.assertYes (t' := 51) (v := Value.agg [Tr.val xa, Tr.val xb].toArray) rfl abx) ?_
 refine wv (OV.extract 1 rfl rfl) ?_
 refine wv (OV.extract 0 rfl rfl) ?_
 refine WL.nil ?_
 refine kg (hK_4' [(0, Tr.val (.cat xa xb)), (9, Tr.val (.cat xa xb)), (14, zB true), (15, Value.agg [Tr.val xa, Tr.val xb].toArray)] _ ?_)
 refine v7 rfl ?_
 refine a6 (fun _ hK_5' => ?_)
 refine a4 ?_
 refine WL.make (MV.alloc amk) rfl rfl rfl (fun b => ?_)
 refine WL.storeW (vs := [Tr.val xa, Tr.val xb]) 0 rfl rfl rfl rfl rfl al8 rfl (c9 (Tr.val_one _) (c9 (Tr.val_one _) m4)) rfl ?_
 refine WL.nil ?_
 refine kg (hK_5' [(4, zP b)] _ ?_)
 refine a6 (fun _ hK_6' => ?_)
 refine o0 5 [] g8 (by kernel_rfl) rfl (fun T hT => ?_)
 refine fv (fun _ => OV.fieldAddr0 rfl ahf) ?_
 refine fv (fun _ => OV.load rfl (At.own 0 rfl) rfl n7) ?_
 obtain ⟨o, h⟩ := h
 refine FL.call aaw (fun _ => rfl) (o) trivial rfl (fun _ => rfl) rfl ?_
 refine fv (fun _ => OV.fieldAddr0 rfl ahi) ?_
 refine fv (fun _ => OV.load rfl (At.own 0 rfl) rfl n7) ?_
 refine FL.weak (L' := fun γ => [(18, Tr.val xa.whole), (20, Tr.val xb)]) (fun γ => ⟨rfl, rfl, trivial⟩) (FL.nil (hT (fun γ => [(18, Tr.val xa.whole), (20, Tr.val xb)]) (fun γ => ?_)))
 obtain ⟨o_1', h⟩ := h
 refine WL.call (A := []) aaw rfl (o_1') rfl trivial rfl rfl ?_
 refine wv (OV.buildC (qs := [(0, [Tr.val xa.whole]), (1, [Tr.val xb.whole])]) (cs := [Tr.val xa.whole, Tr.val xb.whole]) rfl ⟨rfl, Tr.val_cells _, ⟨rfl, Tr.val_cells _, trivial⟩⟩ rfl) ?_
 refine wv (OV.cast (OV.iface rfl ahv) (v' := Tr.val (.cat xa.whole xb.whole)) rfl) ?_
 refine wa ?_
 refine WL.nil ?_
 refine kg (hK_6' [(2, Tr.val (.cat xa.whole xb.whole))] _ ?_)
 refine b9 ?_
 exact hE.ret [] rfl rfl (.inl ⟨_, h, rfl⟩) (f9.of1 rfl (RV.tmp rfl))
def akg (xa : Tr) (xb : Tr) (K : Tr → Prop) : Prop :=
 (d4 Tryd.prog 55 [Tr.val xa] [] [] (Ret (Tr.val xa.whole) [])) ∧
 (d4 Tryd.prog 55 [Tr.val xb] [] [] (Ret (Tr.val xb.whole) [])) ∧
 K (.alt xa.whole xb.whole)
theorem ari  (xa : Tr) (xb : Tr) (K : Tr → Prop) (h : akg xa xb K) :
  d4 Tryd.prog 55 [Tr.val (.alt xa xb)] [] [] (fun o => (∃ (v : Tr), K v ∧ o = .ret (Tr.val v) []) ∨ (False)) := by
 unfold akg at h
 refine c8 (n := 66) (L0 := [(0, Tr.val (.alt xa xb))]) Tryd.func55 rfl rfl rfl rfl (fun w0 M Q hE => ?_)
 refine a6 (fun _ hK => ?_)
 refine a4 ?_
 refine wa ?_
 refine WL.nil ?_
 refine kg (hK [(0, Tr.val (.alt xa xb))] _ ?_)
 refine a6 (fun _ hK_1' => ?_)
 refine a6 (fun _ hK_2' => ?_)
 refine a4 ?_
 refine wm ?_
 refine WL.nil ?_
 refine kg (hK_2' [(0, Tr.val (.alt xa xb)), (9, Tr.val (.alt xa xb))] _ ?_)
 refine d8 ?_
 refine a6 (fun _ hK_3' => ?_)
 refine a4 ?_
 refine wv (OV.eqlNil (v := Value.agg [Tr.val xa, Tr.val xb].toArray) rfl rfl Tryd.underlying23) ?_
 refine WL.nil ?_
 refine kg (hK_3' [(0, Tr.val (.alt xa xb)), (9, Tr.val (.alt xa xb)), (10, zB false)] _ ?_)
 refine g9 rfl ?_
 refine a6 (fun _ hK_4' => ?_)
 refine a4 ?_
 refine wv (OV.assertNo (t2 := 165) (v := Value.agg [Tr.val xa, Tr.val xb].toArray) rfl abx ac9 rfl) ?_
 refine wv (OV.extract 1 rfl rfl) ?_
 refine wv (OV.extract 0 rfl rfl) ?_
 refine WL.nil ?_
 refine kg (hK_4' [(0, Tr.val (.alt xa xb)), (9, Tr.val (.alt xa xb)), (14, zB false), (15, Value.agg [Tr.val Tr.none, Tr.val Tr.none].toArray)] _ ?_)
 refine g9 rfl ?_
 refine a6 (fun _ hK_5' => ?_)
 refine a4 ?_
 refine wv (OV.assertYes (t' := 165) (v := Value.agg [Tr.val xa, Tr.val xb].toArray) rfl aak) ?_
 refine wv (OV.extract 1 rfl rfl) ?_
 refine wv (OV.extract 0 rfl rfl) ?_
 refine WL.nil ?_
 refine kg (hK_5' [(0, Tr.val (.alt xa xb)), (9, Tr.val (.alt xa xb)), (25, zB true), (26, Value.agg [Tr.val xa, Tr.val xb].toArray)] _ ?_)
 refine v7 rfl ?_
 refine a6 (fun _ hK_6' => ?_)
 refine a4 ?_
 refine WL.make (MV.alloc ajy) rfl rfl rfl (fun b => ?_)
 refine WL.storeW (vs := [Tr.val xa, Tr.val xb]) 0 rfl rfl rfl rfl rfl akl rfl (c9 (Tr.val_one _) (c9 (Tr.val_one _) m4)) rfl ?_
 refine WL.nil ?_
 refine kg (hK_6' [(5, zP b)] _ ?_)
 refine a6 (fun _ hK_7' => ?_)
 refine o0 5 [] g8 (by kernel_rfl) rfl (fun T hT => ?_)
 refine fv (fun _ => OV.fieldAddr0 rfl af0) ?_
 refine fv (fun _ => OV.load rfl (At.own 0 rfl) rfl n7) ?_
 obtain ⟨o, h⟩ := h
 refine FL.call aaw (fun _ => rfl) (o) trivial rfl (fun _ => rfl) rfl ?_
 refine fv (fun _ => OV.fieldAddr0 rfl af4) ?_
 refine fv (fun _ => OV.load rfl (At.own 0 rfl) rfl n7) ?_
 refine FL.weak (L' := fun γ => [(29, Tr.val xa.whole), (31, Tr.val xb)]) (fun γ => ⟨rfl, rfl, trivial⟩) (FL.nil (hT (fun γ => [(29, Tr.val xa.whole), (31, Tr.val xb)]) (fun γ => ?_)))
 obtain ⟨o_1', h⟩ := h
 refine WL.call (A := []) aaw rfl (o_1') rfl trivial rfl rfl ?_
 refine wv (OV.buildC (qs := [(0, [Tr.val xa.whole]), (1, [Tr.val xb.whole])]) (cs := [Tr.val xa.whole, Tr.val xb.whole]) rfl ⟨rfl, Tr.val_cells _, ⟨rfl, Tr.val_cells _, trivial⟩⟩ rfl) ?_
 refine wv (OV.cast (OV.iface rfl aj2) (v' := Tr.val (.alt xa.whole xb.whole)) rfl) ?_
 refine wa ?_
 refine WL.nil ?_
 refine kg (hK_7' [(2, Tr.val (.alt xa.whole xb.whole))] _ ?_)
 refine b9 ?_
 exact hE.ret [] rfl rfl (.inl ⟨_, h, rfl⟩) (f9.of1 rfl (RV.tmp rfl))
def ail (xa : Tr) (K : Tr → Prop) : Prop :=
 (d4 Tryd.prog 55 [Tr.val xa] [] [] (Ret (Tr.val xa.whole) [])) ∧
 K (.star xa.whole)
theorem ap6  (xa : Tr) (K : Tr → Prop) (h : ail xa K) :
  d4 Tryd.prog 55 [Tr.val (.star xa)] [] [] (fun o => (∃ (v : Tr), K v ∧ o = .ret (Tr.val v) []) ∨ (False)) := by
 unfold ail at h
 refine c8 (n := 66) (L0 := [(0, Tr.val (.star xa))]) Tryd.func55 rfl rfl rfl rfl (fun w0 M Q hE => ?_)
 refine a6 (fun _ hK => ?_)
 refine a4 ?_
 refine wa ?_
 refine WL.nil ?_
 refine kg (hK [(0, Tr.val (.star xa))] _ ?_)
 refine a6 (fun _ hK_1' => ?_)
 refine a6 (fun _ hK_2' => ?_)
 refine a4 ?_
 refine wm ?_
 refine WL.nil ?_
 refine kg (hK_2' [(0, Tr.val (.star xa)), (9, Tr.val (.star xa))] _ ?_)
 refine d8 ?_
 refine a6 (fun _ hK_3' => ?_)
 refine a4 ?_
 refine wv (OV.eqlNil (v := Value.agg [Tr.val xa].toArray) rfl rfl Tryd.underlying23) ?_
 refine WL.nil ?_
 refine kg (hK_3' [(0, Tr.val (.star xa)), (9, Tr.val (.star xa)), (10, zB false)] _ ?_)
 refine g9 rfl ?_
 refine a6 (fun _ hK_4' => ?_)
 refine a4 ?_
 refine wv (OV.assertNo (t2 := 167) (v := Value.agg [Tr.val xa].toArray) rfl abx ac9 rfl) ?_
 refine wv (OV.extract 1 rfl rfl) ?_
 refine wv (OV.extract 0 rfl rfl) ?_
 refine WL.nil ?_
 refine kg (hK_4' [(0, Tr.val (.star xa)), (9, Tr.val (.star xa)), (14, zB false), (15, Value.agg [Tr.val Tr.none, Tr.val Tr.none].toArray)] _ ?_)
 refine g9 rfl ?_
 refine a6 (fun _ hK_5' => ?_)
 refine a4 ?_
 refine wv (OV.assertNo (t2 := 167) (v := Value.agg [Tr.val xa].toArray) rfl aak aa5 rfl) ?_
 refine wv (OV.extract 1 rfl rfl) ?_
 refine wv (OV.extract 0 rfl rfl) ?_
 refine WL.nil ?_
 refine kg (hK_5' [(0, Tr.val (.star xa)), (9, Tr.val (.star xa)), (25, zB false), (26, Value.agg [Tr.val Tr.none, Tr.val Tr.none].toArray)] _ ?_)
 refine g9 rfl ?_
 refine a6 (fun _ hK_6' => ?_)
 refine a4 ?_
 refine wv (OV.assertNo (t2 := 167) (v := Value.agg [Tr.val xa].toArray) rfl aa7 ace rfl) ?_
 refine wv (OV.extract 1 rfl rfl) ?_
 refine wv (OV.extract 0 rfl rfl) ?_
 refine WL.nil ?_
 refine kg (hK_6' [(0, Tr.val (.star xa)), (9, Tr.val (.star xa)), (36, zB false), (37, Value.agg [Tr.val Tr.none, Tr.val Tr.none].toArray)] _ ?_)
 refine g9 rfl ?_
 refine a6 (fun _ hK_7' => ?_)
 refine a4 ?_
 refine wv (OV.assertNo (t2 := 167) (v := Value.agg [Tr.val xa].toArray) rfl ab6 adi rfl) ?_
 refine wv (OV.extract 1 rfl rfl) ?_
 refine wv (OV.extract 0 rfl rfl) ?_
 refine WL.nil ?_
 refine kg (hK_7' [(0, Tr.val (.star xa)), (9, Tr.val (.star xa)), (47, zB false), (48, Value.agg [Tr.val Tr.none, Tr.val Tr.none].toArray)] _ ?_)
 refine g9 rfl ?_
 refine a6 (fun _ hK_8' => ?_)
 refine a4 ?_
 refine wv (OV.assertYes (t' := 167) (v := Value.agg [Tr.val xa].toArray) rfl aeo) ?_
 refine wv (OV.extract 1 rfl rfl) ?_
 refine wv (OV.extract 0 rfl rfl) ?_
 refine WL.nil ?_
 refine kg (hK_8' [(0, Tr.val (.star xa)), (58, zB true), (59, Value.agg [Tr.val xa].toArray)] _ ?_)
 refine v7 rfl ?_
 refine a6 (fun _ hK_9' => ?_)
 refine a4 ?_
 refine WL.make (MV.alloc aj5) rfl rfl rfl (fun b => ?_)
 refine WL.store (vs := [Tr.val xa]) (cs' := [Tr.val xa]) 0 rfl rfl rfl rfl akc (Nat.le_of_ble_eq_true rfl) (c9 (Tr.val_one _) m4) rfl rfl ?_
 refine WL.nil ?_
 refine kg (hK_9' [(8, zP b)] _ ?_)
 refine a6 (fun _ hK_10' => ?_)
 refine a4 ?_
 refine wv (OV.fieldAddr0 rfl agk) ?_
 refine wv (OV.load rfl (At.own 0 rfl) rfl n7) ?_
 obtain ⟨o, h⟩ := h
 refine WL.call (A := []) aaw rfl (o) rfl trivial rfl rfl ?_
 refine wv (OV.buildC (qs := [(0, [Tr.val xa.whole])]) (cs := [Tr.val xa.whole]) rfl ⟨rfl, Tr.val_cells _, trivial⟩ rfl) ?_
 refine wv (OV.cast (OV.iface rfl akw) (v' := Tr.val (.star xa.whole)) rfl) ?_
 refine wa ?_
 refine WL.nil ?_
 refine kg (hK_10' [(2, Tr.val (.star xa.whole))] _ ?_)
 refine b9 ?_
 exact hE.ret [] rfl rfl (.inl ⟨_, h, rfl⟩) (f9.of1 rfl (RV.tmp rfl))
def akb (xa : Tr) (xb : Tr) (K : Tr → Prop) : Prop :=
 (d4 Tryd.prog 55 [Tr.val xa] [] [] (Ret (Tr.val xa.whole) [])) ∧
 (d4 Tryd.prog 55 [Tr.val xb] [] [] (Ret (Tr.val xb.whole) [])) ∧
 K (.and xa.whole xb.whole)
theorem aqx  (xa : Tr) (xb : Tr) (K : Tr → Prop) (h : akb xa xb K) :
  d4 Tryd.prog 55 [Tr.val (.and xa xb)] [] [] (fun o => (∃ (v : Tr), K v ∧ o = .ret (Tr.val v) []) ∨ (False)) := by
 unfold akb at h
 refine c8 (n := 66) (L0 := [(0, Tr.val (.and xa xb))]) Tryd.func55 rfl rfl rfl rfl (fun w0 M Q hE => ?_)
 refine a6 (fun _ hK => ?_)
 refine a4 ?_
 refine wa ?_
 refine WL.nil ?_
 refine kg (hK [(0, Tr.val (.and xa xb))] _ ?_)
 refine a6 (fun _ hK_1' => ?_)
 refine a6 (fun _ hK_2' => ?_)
 refine a4 ?_
 refine wm ?_
 refine WL.nil ?_
 refine kg (hK_2' [(0, Tr.val (.and xa xb)), (9, Tr.val (.and xa xb))] _ ?_)
 refine d8 ?_
 refine a6 (fun _ hK_3' => ?_)
 refine a4 ?_
 refine wv (OV.eqlNil (v := Value.agg [Tr.val xa, Tr.val xb].toArray) rfl rfl Tryd.underlying23) ?_
 refine WL.nil ?_
 refine kg (hK_3' [(0, Tr.val (.and xa xb)), (9, Tr.val (.and xa xb)), (10, zB false)] _ ?_)
 refine g9 rfl ?_
 refine a6 (fun _ hK_4' => ?_)
 refine a4 ?_
 refine wv (OV.assertNo (t2 := 163) (v := Value.agg [Tr.val xa, Tr.val xb].toArray) rfl abx ac9 rfl) ?_
 refine wv (OV.extract 1 rfl rfl) ?_
 refine wv (OV.extract 0 rfl rfl) ?_
 refine WL.nil ?_
 refine kg (hK_4' [(0, Tr.val (.and xa xb)), (9, Tr.val (.and xa xb)), (14, zB false), (15, Value.agg [Tr.val Tr.none, Tr.val Tr.none].toArray)] _ ?_)
 refine g9 rfl ?_
 refine a6 (fun _ hK_5' => ?_)
 refine a4 ?_
 refine wv (OV.assertNo (t2 := 163) (v := Value.agg [Tr.val xa, Tr.val xb].toArray) rfl aak aa5 rfl) ?_
 refine wv (OV.extract 1 rfl rfl) ?_
 refine wv (OV.extract 0 rfl rfl) ?_
 refine WL.nil ?_
 refine kg (hK_5' [(0, Tr.val (.and xa xb)), (9, Tr.val (.and xa xb)), (25, zB false), (26, Value.agg [Tr.val Tr.none, Tr.val Tr.none].toArray)] _ ?_)
 refine g9 rfl ?_
 refine a6 (fun _ hK_6' => ?_)
 refine a4 ?_
 refine wv (OV.assertYes (t' := 163) (v := Value.agg [Tr.val xa, Tr.val xb].toArray) rfl aa7) ?_
 refine wv (OV.extract 1 rfl rfl) ?_
 refine wv (OV.extract 0 rfl rfl) ?_
 refine WL.nil ?_
 refine kg (hK_6' [(0, Tr.val (.and xa xb)), (9, Tr.val (.and xa xb)), (36, zB true), (37, Value.agg [Tr.val xa, Tr.val xb].toArray)] _ ?_)
 refine v7 rfl ?_
 refine a6 (fun _ hK_7' => ?_)
 refine a4 ?_
 refine WL.make (MV.alloc aki) rfl rfl rfl (fun b => ?_)
 refine WL.storeW (vs := [Tr.val xa, Tr.val xb]) 0 rfl rfl rfl rfl rfl akf rfl (c9 (Tr.val_one _) (c9 (Tr.val_one _) m4)) rfl ?_
 refine WL.nil ?_
 refine kg (hK_7' [(6, zP b)] _ ?_)
 refine a6 (fun _ hK_8' => ?_)
 refine o0 5 [] g8 (by kernel_rfl) rfl (fun T hT => ?_)
 refine fv (fun _ => OV.fieldAddr0 rfl agm) ?_
 refine fv (fun _ => OV.load rfl (At.own 0 rfl) rfl n7) ?_
 obtain ⟨o, h⟩ := h
 refine FL.call aaw (fun _ => rfl) (o) trivial rfl (fun _ => rfl) rfl ?_
 refine fv (fun _ => OV.fieldAddr0 rfl ago) ?_
 refine fv (fun _ => OV.load rfl (At.own 0 rfl) rfl n7) ?_
 refine FL.weak (L' := fun γ => [(40, Tr.val xa.whole), (42, Tr.val xb)]) (fun γ => ⟨rfl, rfl, trivial⟩) (FL.nil (hT (fun γ => [(40, Tr.val xa.whole), (42, Tr.val xb)]) (fun γ => ?_)))
 obtain ⟨o_1', h⟩ := h
 refine WL.call (A := []) aaw rfl (o_1') rfl trivial rfl rfl ?_
 refine wv (OV.buildC (qs := [(0, [Tr.val xa.whole]), (1, [Tr.val xb.whole])]) (cs := [Tr.val xa.whole, Tr.val xb.whole]) rfl ⟨rfl, Tr.val_cells _, ⟨rfl, Tr.val_cells _, trivial⟩⟩ rfl) ?_
 refine wv (OV.cast (OV.iface rfl akd) (v' := Tr.val (.and xa.whole xb.whole)) rfl) ?_
 refine wa ?_
 refine WL.nil ?_
 refine kg (hK_8' [(2, Tr.val (.and xa.whole xb.whole))] _ ?_)
 refine b9 ?_
 exact hE.ret [] rfl rfl (.inl ⟨_, h, rfl⟩) (f9.of1 rfl (RV.tmp rfl))
def ahh (xa : Tr) (xb : Tr) (K : Tr → Prop) : Prop :=
 (d4 Tryd.prog 55 [Tr.val xa] [] [] (Ret (Tr.val xa.whole) [])) ∧
 (d4 Tryd.prog 55 [Tr.val xb] [] [] (Ret (Tr.val xb.whole) [])) ∧
 K (.minus xa.whole xb.whole)
theorem anh  (xa : Tr) (xb : Tr) (K : Tr → Prop) (h : ahh xa xb K) :
  d4 Tryd.prog 55 [Tr.val (.minus xa xb)] [] [] (fun o => (∃ (v : Tr), K v ∧ o = .ret (Tr.val v) []) ∨ (False)) := by
 unfold ahh at h
 refine c8 (n := 66) (L0 := [(0, Tr.val (.minus xa xb))]) Tryd.func55 rfl rfl rfl rfl (fun w0 M Q hE => ?_)
 refine a6 (fun _ hK => ?_)
 refine a4 ?_
 refine wa ?_
 refine WL.nil ?_
 refine kg (hK [(0, Tr.val (.minus xa xb))] _ ?_)
 refine a6 (fun _ hK_1' => ?_)
 refine a6 (fun _ hK_2' => ?_)
 refine a4 ?_
 refine wm ?_
 refine WL.nil ?_
 refine kg (hK_2' [(0, Tr.val (.minus xa xb)), (9, Tr.val (.minus xa xb))] _ ?_)
 refine d8 ?_
 refine a6 (fun _ hK_3' => ?_)
 refine a4 ?_
 refine wv (OV.eqlNil (v := Value.agg [Tr.val xa, Tr.val xb].toArray) rfl rfl Tryd.underlying23) ?_
 refine WL.nil ?_
 refine kg (hK_3' [(0, Tr.val (.minus xa xb)), (9, Tr.val (.minus xa xb)), (10, zB false)] _ ?_)
 refine g9 rfl ?_
 refine a6 (fun _ hK_4' => ?_)
 refine a4 ?_
 refine wv (OV.assertNo (t2 := 164) (v := Value.agg [Tr.val xa, Tr.val xb].toArray) rfl abx ac9 rfl) ?_
 refine wv (OV.extract 1 rfl rfl) ?_
 refine wv (OV.extract 0 rfl rfl) ?_
 refine WL.nil ?_
 refine kg (hK_4' [(0, Tr.val (.minus xa xb)), (9, Tr.val (.minus xa xb)), (14, zB false), (15, Value.agg [Tr.val Tr.none, Tr.val Tr.none].toArray)] _ ?_)
 refine g9 rfl ?_
 refine a6 (fun _ hK_5' => ?_)
 refine a4 ?_
 refine wv (OV.assertNo (t2 := 164) (v := Value.agg [Tr.val xa, Tr.val xb].toArray) rfl aak aa5 rfl) ?_
 refine wv (OV.extract 1 rfl rfl) ?_
 refine wv (OV.extract 0 rfl rfl) ?_
 refine WL.nil ?_
 refine kg (hK_5' [(0, Tr.val (.minus xa xb)), (9, Tr.val (.minus xa xb)), (25, zB false), (26, Value.agg [Tr.val Tr.none, Tr.val Tr.none].toArray)] _ ?_)
 refine g9 rfl ?_
 refine a6 (fun _ hK_6' => ?_)
 refine a4 ?_
 refine wv (OV.assertNo (t2 := 164) (v := Value.agg [Tr.val xa, Tr.val xb].toArray) rfl aa7 ace rfl) ?_
 refine wv (OV.extract 1 rfl rfl) ?_
 refine wv (OV.extract 0 rfl rfl) ?_
 refine WL.nil ?_
 refine kg (hK_6' [(0, Tr.val (.minus xa xb)), (9, Tr.val (.minus xa xb)), (36, zB false), (37, Value.agg [Tr.val Tr.none, Tr.val Tr.none].toArray)] _ ?_)
 refine g9 rfl ?_
 refine a6 (fun _ hK_7' => ?_)
 refine a4 ?_
 refine wv (OV.assertYes (t' := 164) (v := Value.agg [Tr.val xa, Tr.val xb].toArray) rfl ab6) ?_
 refine wv (OV.extract 1 rfl rfl) ?_
 refine wv (OV.extract 0 rfl rfl) ?_
 refine WL.nil ?_
 refine kg (hK_7' [(0, Tr.val (.minus xa xb)), (9, Tr.val (.minus xa xb)), (47, zB true), (48, Value.agg [Tr.val xa, Tr.val xb].toArray)] _ ?_)
 refine v7 rfl ?_
 refine a6 (fun _ hK_8' => ?_)
 refine a4 ?_
 refine WL.make (MV.alloc ako) rfl rfl rfl (fun b => ?_)
 refine WL.storeW (vs := [Tr.val xa, Tr.val xb]) 0 rfl rfl rfl rfl rfl aka rfl (c9 (Tr.val_one _) (c9 (Tr.val_one _) m4)) rfl ?_
 refine WL.nil ?_
 refine kg (hK_8' [(7, zP b)] _ ?_)
 refine a6 (fun _ hK_9' => ?_)
 refine o0 5 [] g8 (by kernel_rfl) rfl (fun T hT => ?_)
 refine fv (fun _ => OV.fieldAddr0 rfl agd) ?_
 refine fv (fun _ => OV.load rfl (At.own 0 rfl) rfl n7) ?_
 obtain ⟨o, h⟩ := h
 refine FL.call aaw (fun _ => rfl) (o) trivial rfl (fun _ => rfl) rfl ?_
 refine fv (fun _ => OV.fieldAddr0 rfl agn) ?_
 refine fv (fun _ => OV.load rfl (At.own 0 rfl) rfl n7) ?_
 refine FL.weak (L' := fun γ => [(51, Tr.val xa.whole), (53, Tr.val xb)]) (fun γ => ⟨rfl, rfl, trivial⟩) (FL.nil (hT (fun γ => [(51, Tr.val xa.whole), (53, Tr.val xb)]) (fun γ => ?_)))
 obtain ⟨o_1', h⟩ := h
 refine WL.call (A := []) aaw rfl (o_1') rfl trivial rfl rfl ?_
 refine wv (OV.buildC (qs := [(0, [Tr.val xa.whole]), (1, [Tr.val xb.whole])]) (cs := [Tr.val xa.whole, Tr.val xb.whole]) rfl ⟨rfl, Tr.val_cells _, ⟨rfl, Tr.val_cells _, trivial⟩⟩ rfl) ?_
 refine wv (OV.cast (OV.iface rfl akk) (v' := Tr.val (.minus xa.whole xb.whole)) rfl) ?_
 refine wa ?_
 refine WL.nil ?_
 refine kg (hK_9' [(2, Tr.val (.minus xa.whole xb.whole))] _ ?_)
 refine b9 ?_
 exact hE.ret [] rfl rfl (.inl ⟨_, h, rfl⟩) (f9.of1 rfl (RV.tmp rfl))
theorem aab : ∀ x : Tr, d4 Tryd.prog 55 [x.val] [] [] (Ret x.whole.val [])
 | .none => d4.one (apm (fun v => v = Tr.whole .none) rfl)
 | .eps => d4.one (aqo (fun v => v = Tr.whole .eps) rfl)
 | .cls s => d4.one (aqi s (fun v => v = Tr.whole (.cls s)) rfl)
 | .cat a b => d4.one (aro a b (fun v => v = Tr.whole (.cat a b)) ⟨aab a, aab b, rfl⟩)
 | .alt a b => d4.one (ari a b (fun v => v = Tr.whole (.alt a b)) ⟨aab a, aab b, rfl⟩)
 | .star a => d4.one (ap6 a (fun v => v = Tr.whole (.star a)) ⟨aab a, rfl⟩)
 | .and a b => d4.one (aqx a b (fun v => v = Tr.whole (.and a b)) ⟨aab a, aab b, rfl⟩)
 | .minus a b => d4.one (anh a b (fun v => v = Tr.whole (.minus a b)) ⟨aab a, aab b, rfl⟩)
def aty (a : Tr) (b : Tr) (K : Bool → Prop) : Prop :=
 (d4 Tryd.prog 55 [Tr.val a] [] [] (Ret (Tr.val a.whole) [])) ∧
 (d4 Tryd.prog 55 [Tr.val b] [] [] (Ret (Tr.val b.whole) [])) ∧
 (a.whole ≠ .none ∧ Tr.high a.whole ≤ 4000) ∧
 K (decide (a.whole = b.whole))
theorem ayn  (a : Tr) (b : Tr) (K : Bool → Prop) (h : aty a b K) :
  d4 Tryd.prog 26 [Tr.val a, Tr.val b] [] [] (fun o => (∃ (v : Bool), K v ∧ o = .ret (zB v) []) ∨ (False)) := by
 unfold aty at h
 refine c8 (n := 10) (L0 := [(0, Tr.val a), (1, Tr.val b)]) Tryd.func26 rfl rfl rfl rfl (fun w0 M Q hE => ?_)
 refine a6 (fun _ hK => ?_)
 refine a4 ?_
 refine wa ?_
 refine WL.nil ?_
 refine kg (hK [(0, Tr.val a), (1, Tr.val b)] _ ?_)
 refine a6 (fun _ hK_1' => ?_)
 refine a4 ?_
 refine wm ?_
 obtain ⟨o, h⟩ := h
 refine WL.call (A := []) aaw rfl (o) rfl trivial rfl rfl ?_
 refine wm ?_
 obtain ⟨o_1', h⟩ := h
 refine WL.call (A := []) aaw rfl (o_1') rfl trivial rfl rfl ?_
 obtain ⟨o_2', h⟩ := h
 refine wv (OV.eqlTrs rfl rfl o_2') ?_
 refine wa ?_
 refine WL.nil ?_
 refine kg (hK_1' [(4, zB (decide (a.whole = b.whole)))] _ ?_)
 refine b9 ?_
 exact hE.ret [] rfl rfl (.inl ⟨_, h, rfl⟩) (f9.of1 rfl (RV.tmp rfl))
def aj4 (need : Int) (K : (List UInt8) → Prop) : Prop :=
 ∃ (J0 : Prop),
  (∀ (_ : Unit), J0 →
   (if (decide (4 < need)) = true then
    (([40] : List UInt8).length + ([91, 93] : List UInt8).length ≤ 9223372036854775807) ∧
    ((([40] : List UInt8) ++ ([91, 93] : List UInt8)).length + ([41] : List UInt8).length ≤ 9223372036854775807) ∧
    K ((([40] : List UInt8) ++ ([91, 93] : List UInt8)) ++ ([41] : List UInt8))
   else
    K ([91, 93] : List UInt8))) ∧
  J0
theorem aqu (te : TypeId) (fre : Nat × Nat) (need : Int) (K : (List UInt8) → Prop) (h : aj4 need K) :
  d4 Tryd.prog 51 [Tr.val Tr.none, zI need] [(1, .cells [zU 110, zU 10, zU 114, zU 13, zU 116, zU 9].toArray te fre)] [] (fun o => (∃ (v : List UInt8), K v ∧ o = .ret (st v) []) ∨ (False)) := by
 unfold aj4 at h
 refine c8 (n := 82) (L0 := [(0, Tr.val Tr.none), (1, zI need)]) Tryd.func51 rfl rfl rfl rfl (fun w0 M Q hE => ?_)
 refine a6 (fun _ hK => ?_)
 refine a4 ?_
 refine wa ?_
 refine WL.nil ?_
 refine kg (hK [(0, Tr.val Tr.none), (1, zI need)] _ ?_)
 refine a6 (fun _ hK_1' => ?_)
 refine a4 ?_
 refine wa ?_
 refine wa ?_
 refine WL.nil ?_
 refine kg (hK_1' [(0, Tr.val Tr.none), (1, zI need), (6, zI 4)] _ ?_)
 obtain ⟨J0, hJ, h⟩ := h
 refine m8 (X := Unit) (fun _ => J0) (fun _ => [(1, zI need), (5, st ([91, 93] : List UInt8)), (6, zI 4)]) (fun _ => []) ?_ (fun K0_11' hK_11' => ?_)
 ·rintro _ hj
  replace h := hJ () hj
  show WC _ _ _ _ [(1, zI need), (5, st ([91, 93] : List UInt8)), (6, zI 4)] []
  refine a6 (fun _ hK_12' => ?_)
  refine a6 (fun _ hK_13' => ?_)
  refine a4 ?_
  refine wm ?_
  refine wm ?_
  refine wv (OV.lss rfl rfl) ?_
  refine WL.nil ?_
  refine kg (hK_13' [(5, st ([91, 93] : List UInt8)), (77, zB (decide (4 < need)))] _ ?_)
  refine b5 (b := decide (4 < need)) rfl (fun hb => ?_) (fun hb => ?_)
  ·replace h := j7 h hb
   refine a6 (fun _ hK_14' => ?_)
   refine a4 ?_
   refine wm ?_
   obtain ⟨o, h⟩ := h
   refine wv (OV.cat rfl rfl o) ?_
   obtain ⟨o_1', h⟩ := h
   refine wv (OV.cat rfl rfl o_1') ?_
   refine wa ?_
   refine WL.nil ?_
   refine kg (hK_14' [(4, st ((([40] : List UInt8) ++ ([91, 93] : List UInt8)) ++ ([41] : List UInt8)))] _ ?_)
   refine b9 ?_
   exact hE.ret [] rfl rfl (.inl ⟨_, h, rfl⟩) (f9.of1 rfl (RV.tmp rfl))
  ·replace h := j6 h hb
   refine b8 ?_
   refine kg (hK_12' [(5, st ([91, 93] : List UInt8))] _ ?_)
   refine a6 (fun _ hK_15' => ?_)
   refine a4 ?_
   refine wm ?_
   refine wa ?_
   refine WL.nil ?_
   refine kg (hK_15' [(4, st ([91, 93] : List UInt8))] _ ?_)
   refine b9 ?_
   exact hE.ret [] rfl rfl (.inl ⟨_, h, rfl⟩) (f9.of1 rfl (RV.tmp rfl))
 ·skip
  refine a6 (fun _ hK_16' => ?_)
  refine a4 ?_
  refine wm ?_
  refine WL.nil ?_
  refine kg (hK_16' [(1, zI need), (6, zI 4), (15, Tr.val Tr.none)] _ ?_)
  refine d8 ?_
  refine a6 (fun _ hK_17' => ?_)
  refine a4 ?_
  refine wv (OV.assertNil rfl ada ad2) ?_
  refine wv (OV.extract 1 rfl rfl) ?_
  refine wv (OV.extract 0 rfl rfl) ?_
  refine WL.nil ?_
  refine kg (hK_17' [(1, zI need), (6, zI 4), (15, Tr.val Tr.none), (17, zB false), (18, Value.agg [].toArray)] _ ?_)
  refine g9 rfl ?_
  refine a6 (fun _ hK_18' => ?_)
  refine a4 ?_
  refine wv (OV.assertNil rfl ad0 aez) ?_
  refine wv (OV.extract 1 rfl rfl) ?_
  refine wv (OV.extract 0 rfl rfl) ?_
  refine WL.nil ?_
  refine kg (hK_18' [(1, zI need), (6, zI 4), (15, Tr.val Tr.none), (20, zB false), (21, Value.agg (wl cs0).toArray)] _ ?_)
  refine g9 rfl ?_
  refine a6 (fun _ hK_19' => ?_)
  refine a4 ?_
  refine wv (OV.assertNil rfl aak aa5) ?_
  refine wv (OV.extract 1 rfl rfl) ?_
  refine wv (OV.extract 0 rfl rfl) ?_
  refine WL.nil ?_
  refine kg (hK_19' [(1, zI need), (6, zI 4), (15, Tr.val Tr.none), (26, zB false), (27, Value.agg [Tr.val Tr.none, Tr.val Tr.none].toArray)] _ ?_)
  refine g9 rfl ?_
  refine a6 (fun _ hK_20' => ?_)
  refine a4 ?_
  refine wv (OV.assertNil rfl aa7 ace) ?_
  refine wv (OV.extract 1 rfl rfl) ?_
  refine wv (OV.extract 0 rfl rfl) ?_
  refine WL.nil ?_
  refine kg (hK_20' [(1, zI need), (6, zI 4), (15, Tr.val Tr.none), (37, zB false), (38, Value.agg [Tr.val Tr.none, Tr.val Tr.none].toArray)] _ ?_)
  refine g9 rfl ?_
  refine a6 (fun _ hK_21' => ?_)
  refine a4 ?_
  refine wv (OV.assertNil rfl ab6 adi) ?_
  refine wv (OV.extract 1 rfl rfl) ?_
  refine wv (OV.extract 0 rfl rfl) ?_
  refine WL.nil ?_
  refine kg (hK_21' [(1, zI need), (6, zI 4), (15, Tr.val Tr.none), (48, zB false), (49, Value.agg [Tr.val Tr.none, Tr.val Tr.none].toArray)] _ ?_)
  refine g9 rfl ?_
  refine a6 (fun _ hK_22' => ?_)
  refine a4 ?_
  refine wv (OV.assertNil rfl abx ac9) ?_
  refine wv (OV.extract 1 rfl rfl) ?_
  refine wv (OV.extract 0 rfl rfl) ?_
  refine WL.nil ?_
  refine kg (hK_22' [(1, zI need), (6, zI 4), (15, Tr.val Tr.none), (59, zB false), (60, Value.agg [Tr.val Tr.none, Tr.val Tr.none].toArray)] _ ?_)
  refine g9 rfl ?_
  refine a6 (fun _ hK_23' => ?_)
  refine a4 ?_
  refine wv (OV.assertNil rfl aeo ajg) ?_
  refine wv (OV.extract 1 rfl rfl) ?_
  refine wv (OV.extract 0 rfl rfl) ?_
  refine WL.nil ?_
  refine kg (hK_23' [(1, zI need), (6, zI 4), (15, Tr.val Tr.none), (69, zB false), (70, Value.agg [Tr.val Tr.none].toArray)] _ ?_)
  refine g9 rfl ?_
  refine a6 (fun _ hK_24' => ?_)
  refine a4 ?_
  refine wa ?_
  refine WL.nil ?_
  refine kg (hK_24' [(1, zI need), (6, zI 4)] _ ?_)
  refine a4 ?_
  refine wa ?_
  refine WL.nil ?_
  exact kh (hK_11' () h) []
def alf (need : Int) (K : (List UInt8) → Prop) : Prop :=
 ∃ (J0 : Prop),
  (∀ (_ : Unit), J0 →
   (if (decide (4 < need)) = true then
    (([40] : List UInt8).length + ([40, 41] : List UInt8).length ≤ 9223372036854775807) ∧
    ((([40] : List UInt8) ++ ([40, 41] : List UInt8)).length + ([41] : List UInt8).length ≤ 9223372036854775807) ∧
    K ((([40] : List UInt8) ++ ([40, 41] : List UInt8)) ++ ([41] : List UInt8))
   else
    K ([40, 41] : List UInt8))) ∧
  J0
theorem asr (te : TypeId) (fre : Nat × Nat) (need : Int) (K : (List UInt8) → Prop) (h : alf need K) :
  d4 Tryd.prog 51 [Tr.val .eps, zI need] [(1, .cells [zU 110, zU 10, zU 114, zU 13, zU 116, zU 9].toArray te fre)] [] (fun o => (∃ (v : List UInt8), K v ∧ o = .ret (st v) []) ∨ (False)) := by
 unfold alf at h
 refine c8 (n := 82) (L0 := [(0, Tr.val .eps), (1, zI need)]) Tryd.func51 rfl rfl rfl rfl (fun w0 M Q hE => ?_)
 refine a6 (fun _ hK => ?_)
 refine a4 ?_
 refine wa ?_
 refine WL.nil ?_
 refine kg (hK [(0, Tr.val .eps), (1, zI need)] _ ?_)
 refine a6 (fun _ hK_1' => ?_)
 refine a4 ?_
 refine wa ?_
 refine wa ?_
 refine WL.nil ?_
 refine kg (hK_1' [(0, Tr.val .eps), (1, zI need), (6, zI 4)] _ ?_)
 obtain ⟨J0, hJ, h⟩ := h
 refine m8 (X := Unit) (fun _ => J0) (fun _ => [(1, zI need), (5, st ([40, 41] : List UInt8)), (6, zI 4)]) (fun _ => []) ?_ (fun K0_5' hK_5' => ?_)
 ·rintro _ hj
  replace h := hJ () hj
  show WC _ _ _ _ [(1, zI need), (5, st ([40, 41] : List UInt8)), (6, zI 4)] []
  refine a6 (fun _ hK_6' => ?_)
  refine a6 (fun _ hK_7' => ?_)
  refine a4 ?_
  refine wm ?_
  refine wm ?_
  refine wv (OV.lss rfl rfl) ?_
  refine WL.nil ?_
  refine kg (hK_7' [(5, st ([40, 41] : List UInt8)), (77, zB (decide (4 < need)))] _ ?_)
  refine b5 (b := decide (4 < need)) rfl (fun hb => ?_) (fun hb => ?_)
  ·replace h := j7 h hb
   refine a6 (fun _ hK_8' => ?_)
   refine a4 ?_
   refine wm ?_
   obtain ⟨o, h⟩ := h
   refine wv (OV.cat rfl rfl o) ?_
   obtain ⟨o_1', h⟩ := h
   refine wv (OV.cat rfl rfl o_1') ?_
   refine wa ?_
   refine WL.nil ?_
   refine kg (hK_8' [(4, st ((([40] : List UInt8) ++ ([40, 41] : List UInt8)) ++ ([41] : List UInt8)))] _ ?_)
   refine b9 ?_
   exact hE.ret [] rfl rfl (.inl ⟨_, h, rfl⟩) (f9.of1 rfl (RV.tmp rfl))
  ·replace h := j6 h hb
   refine b8 ?_
   refine kg (hK_6' [(5, st ([40, 41] : List UInt8))] _ ?_)
   refine a6 (fun _ hK_9' => ?_)
   refine a4 ?_
   refine wm ?_
   refine wa ?_
   refine WL.nil ?_
   refine kg (hK_9' [(4, st ([40, 41] : List UInt8))] _ ?_)
   refine b9 ?_
   exact hE.ret [] rfl rfl (.inl ⟨_, h, rfl⟩) (f9.of1 rfl (RV.tmp rfl))
 ·skip
  refine a6 (fun _ hK_10' => ?_)
  refine a4 ?_
  refine wm ?_
  refine WL.nil ?_
  refine kg (hK_10' [(1, zI need), (6, zI 4), (15, Tr.val .eps)] _ ?_)
  refine d8 ?_
  refine a6 (fun _ hK_11' => ?_)
  refine a4 ?_
  refine wv (OV.assertYes (t' := 49) (v := Value.agg [].toArray) rfl ada) ?_
  refine wv (OV.extract 1 rfl rfl) ?_
  refine wv (OV.extract 0 rfl rfl) ?_
  refine WL.nil ?_
  refine kg (hK_11' [(1, zI need), (6, zI 4), (15, Tr.val .eps), (17, zB true), (18, Value.agg [].toArray)] _ ?_)
  refine v7 rfl ?_
  refine a6 (fun _ hK_12' => ?_)
  refine a4 ?_
  refine WL.make (MV.alloc ar2) rfl rfl rfl (fun b_1' => ?_)
  refine WL.store (vs := []) (cs' := []) 0 rfl rfl rfl rfl ar1 (Nat.le_of_ble_eq_true rfl) rfl rfl rfl ?_
  refine WL.nil ?_
  refine kg (hK_12' [(1, zI need), (6, zI 4)] _ ?_)
  refine a4 ?_
  refine wa ?_
  refine WL.nil ?_
  exact kh (hK_5' () h) []
def aln (xs : CS) (need : Int) (K : (List UInt8) → Prop) : Prop :=
 ∃ (J0 : Prop),
  (∀ (_ : Unit), J0 →
   (if (decide (4 < need)) = true then
    (([40] : List UInt8).length + (u1 xs).length ≤ 9223372036854775807) ∧
    ((([40] : List UInt8) ++ (u1 xs)).length + ([41] : List UInt8).length ≤ 9223372036854775807) ∧
    K ((([40] : List UInt8) ++ (u1 xs)) ++ ([41] : List UInt8))
   else
    K (u1 xs))) ∧
  J0
theorem asf (te : TypeId) (fre : Nat × Nat) (xs : CS) (need : Int) (K : (List UInt8) → Prop) (h : aln xs need K) :
  d4 Tryd.prog 51 [Tr.val (.cls xs), zI need] [(1, .cells [zU 110, zU 10, zU 114, zU 13, zU 116, zU 9].toArray te fre)] [] (fun o => (∃ (v : List UInt8), K v ∧ o = .ret (st v) []) ∨ (False)) := by
 unfold aln at h
 refine c8 (n := 82) (L0 := [(0, Tr.val (.cls xs)), (1, zI need)]) Tryd.func51 rfl rfl rfl rfl (fun w0 M Q hE => ?_)
 refine a6 (fun _ hK => ?_)
 refine a4 ?_
 refine wa ?_
 refine WL.nil ?_
 refine kg (hK [(0, Tr.val (.cls xs)), (1, zI need)] _ ?_)
 refine a6 (fun _ hK_1' => ?_)
 refine a4 ?_
 refine wa ?_
 refine wa ?_
 refine WL.nil ?_
 refine kg (hK_1' [(0, Tr.val (.cls xs)), (1, zI need), (6, zI 4)] _ ?_)
 obtain ⟨J0, hJ, h⟩ := h
 refine m8 (X := Unit) (fun _ => J0) (fun _ => [(1, zI need), (5, st (u1 xs)), (6, zI 4)]) (fun _ => []) ?_ (fun K0_6' hK_6' => ?_)
 ·rintro _ hj
  replace h := hJ () hj
  show WC _ _ _ _ [(1, zI need), (5, st (u1 xs)), (6, zI 4)] []
  refine a6 (fun _ hK_7' => ?_)
  refine a6 (fun _ hK_8' => ?_)
  refine a4 ?_
  refine wm ?_
  refine wm ?_
  refine wv (OV.lss rfl rfl) ?_
  refine WL.nil ?_
  refine kg (hK_8' [(5, st (u1 xs)), (77, zB (decide (4 < need)))] _ ?_)
  refine b5 (b := decide (4 < need)) rfl (fun hb => ?_) (fun hb => ?_)
  ·replace h := j7 h hb
   refine a6 (fun _ hK_9' => ?_)
   refine a4 ?_
   refine wm ?_
   obtain ⟨o, h⟩ := h
   refine wv (OV.cat rfl rfl o) ?_
   obtain ⟨o_1', h⟩ := h
   refine wv (OV.cat rfl rfl o_1') ?_
   refine wa ?_
   refine WL.nil ?_
   refine kg (hK_9' [(4, st ((([40] : List UInt8) ++ (u1 xs)) ++ ([41] : List UInt8)))] _ ?_)
   refine b9 ?_
   exact hE.ret [] rfl rfl (.inl ⟨_, h, rfl⟩) (f9.of1 rfl (RV.tmp rfl))
  ·replace h := j6 h hb
   refine b8 ?_
   refine kg (hK_7' [(5, st (u1 xs))] _ ?_)
   refine a6 (fun _ hK_10' => ?_)
   refine a4 ?_
   refine wm ?_
   refine wa ?_
   refine WL.nil ?_
   refine kg (hK_10' [(4, st (u1 xs))] _ ?_)
   refine b9 ?_
   exact hE.ret [] rfl rfl (.inl ⟨_, h, rfl⟩) (f9.of1 rfl (RV.tmp rfl))
 ·skip
  refine a6 (fun _ hK_11' => ?_)
  refine a4 ?_
  refine wm ?_
  refine WL.nil ?_
  refine kg (hK_11' [(1, zI need), (6, zI 4), (15, Tr.val (.cls xs))] _ ?_)
  refine d8 ?_
  refine a6 (fun _ hK_12' => ?_)
  refine a4 ?_
  refine wv (OV.assertNo (t2 := 87) (v := Value.agg (wl xs).toArray) rfl ada ad2 rfl) ?_
  refine wv (OV.extract 1 rfl rfl) ?_
  refine wv (OV.extract 0 rfl rfl) ?_
  refine WL.nil ?_
  refine kg (hK_12' [(1, zI need), (6, zI 4), (15, Tr.val (.cls xs)), (17, zB false), (18, Value.agg [].toArray)] _ ?_)
  refine g9 rfl ?_
  refine a6 (fun _ hK_13' => ?_)
  refine a4 ?_
  refine wv (OV.assertYes (t' := 87) (v := Value.agg (wl xs).toArray) rfl ad0) ?_
  refine wv (OV.extract 1 rfl rfl) ?_
  refine wv (OV.extract 0 rfl rfl) ?_
  refine WL.nil ?_
  refine kg (hK_13' [(1, zI need), (6, zI 4), (15, Tr.val (.cls xs)), (20, zB true), (21, Value.agg (wl xs).toArray)] _ ?_)
  refine v7 rfl ?_
  refine a6 (fun _ hK_14' => ?_)
  refine a4 ?_
  refine WL.make (MV.alloc alu) rfl rfl rfl (fun b_1' => ?_)
  refine WL.storeW (vs := wl xs) 0 rfl rfl rfl rfl rfl amr rfl rfl rfl ?_
  refine WL.nil ?_
  refine kg (hK_14' [(1, zI need), (6, zI 4), (8, zP b_1')] _ ?_)
  refine a4 ?_
  refine wv (OV.fieldAddr0 rfl anj) ?_
  refine wv (OV.loadR rfl (At.own 0 rfl) y4) ?_
  refine WL.call (A := []) au1 rfl (d4.ofPureE te fre (avu xs)) rfl ⟨.inr (List.mem_of_getElem? (i := 0) rfl), trivial⟩ rfl rfl ?_
  refine wa ?_
  refine WL.nil ?_
  exact kh (hK_6' () h) []
def amz (te : TypeId) (fre : Nat × Nat) (xa : Tr) (xb : Tr) (need : Int) (K : (List UInt8) → Prop) : Prop :=
 ∃ (J0 : Prop),
  (∀ (_ : Unit), J0 →
   (if (decide (2 < need)) = true then
    (([40] : List UInt8).length + ((b7 xa 2) ++ (b7 xb 3)).length ≤ 9223372036854775807) ∧
    ((([40] : List UInt8) ++ ((b7 xa 2) ++ (b7 xb 3))).length + ([41] : List UInt8).length ≤ 9223372036854775807) ∧
    K ((([40] : List UInt8) ++ ((b7 xa 2) ++ (b7 xb 3))) ++ ([41] : List UInt8))
   else
    K ((b7 xa 2) ++ (b7 xb 3)))) ∧
  (d4 Tryd.prog 51 [Tr.val xa, zI 2] (y9 te fre) [] (Ret (st (b7 xa 2)) [])) ∧
  (d4 Tryd.prog 51 [Tr.val xb, zI 3] (y9 te fre) [] (Ret (st (b7 xb 3)) [])) ∧
  ((b7 xa 2).length + (b7 xb 3).length ≤ 9223372036854775807) ∧
  J0
theorem atc (te : TypeId) (fre : Nat × Nat) (xa : Tr) (xb : Tr) (need : Int) (K : (List UInt8) → Prop) (h : amz te fre xa xb need K) :
  d4 Tryd.prog 51 [Tr.val (.cat xa xb), zI need] [(1, .cells [zU 110, zU 10, zU 114, zU 13, zU 116, zU 9].toArray te fre)] [] (fun o => (∃ (v : List UInt8), K v ∧ o = .ret (st v) []) ∨ (False)) := by
 unfold amz at h
 refine c8 (n := 82) (L0 := [(0, Tr.val (.cat xa xb)), (1, zI need)]) Tryd.func51 rfl rfl rfl rfl (fun w0 M Q hE => ?_)
 refine a6 (fun _ hK => ?_)
 refine a4 ?_
 refine wa ?_
 refine WL.nil ?_
 refine kg (hK [(0, Tr.val (.cat xa xb)), (1, zI need)] _ ?_)
 refine a6 (fun _ hK_1' => ?_)
 refine a4 ?_
 refine wa ?_
 refine wa ?_
 refine WL.nil ?_
 refine kg (hK_1' [(0, Tr.val (.cat xa xb)), (1, zI need), (6, zI 4)] _ ?_)
 obtain ⟨J0, hJ, h⟩ := h
 refine m8 (X := Unit) (fun _ => J0) (fun _ => [(1, zI need), (5, st ((b7 xa 2) ++ (b7 xb 3))), (6, zI 2)]) (fun _ => []) ?_ (fun K0_10' hK_10' => ?_)
 ·rintro _ hj
  replace h := hJ () hj
  show WC _ _ _ _ [(1, zI need), (5, st ((b7 xa 2) ++ (b7 xb 3))), (6, zI 2)] []
  refine a6 (fun _ hK_11' => ?_)
  refine a6 (fun _ hK_12' => ?_)
  refine a4 ?_
  refine wm ?_
  refine wm ?_
  refine wv (OV.lss rfl rfl) ?_
  refine WL.nil ?_
  refine kg (hK_12' [(5, st ((b7 xa 2) ++ (b7 xb 3))), (77, zB (decide (2 < need)))] _ ?_)
  refine b5 (b := decide (2 < need)) rfl (fun hb => ?_) (fun hb => ?_)
  ·replace h := j7 h hb
   refine a6 (fun _ hK_13' => ?_)
   refine a4 ?_
   refine wm ?_
   obtain ⟨o_3', h⟩ := h
   refine wv (OV.cat rfl rfl o_3') ?_
   obtain ⟨o_4', h⟩ := h
   refine wv (OV.cat rfl rfl o_4') ?_
   refine wa ?_
   refine WL.nil ?_
   refine kg (hK_13' [(4, st ((([40] : List UInt8) ++ ((b7 xa 2) ++ (b7 xb 3))) ++ ([41] : List UInt8)))] _ ?_)
   refine b9 ?_
   exact hE.ret [] rfl rfl (.inl ⟨_, h, rfl⟩) (f9.of1 rfl (RV.tmp rfl))
  ·replace h := j6 h hb
   refine b8 ?_
   refine kg (hK_11' [(5, st ((b7 xa 2) ++ (b7 xb 3)))] _ ?_)
   refine a6 (fun _ hK_14' => ?_)
   refine a4 ?_
   refine wm ?_
   refine wa ?_
   refine WL.nil ?_
   refine kg (hK_14' [(4, st ((b7 xa 2) ++ (b7 xb 3)))] _ ?_)
   refine b9 ?_
   exact hE.ret [] rfl rfl (.inl ⟨_, h, rfl⟩) (f9.of1 rfl (RV.tmp rfl))
 ·skip
  refine a6 (fun _ hK_15' => ?_)
  refine a4 ?_
  refine wm ?_
  refine WL.nil ?_
  refine kg (hK_15' [(1, zI need), (6, zI 4), (15, Tr.val (.cat xa xb))] _ ?_)
  refine d8 ?_
  refine a6 (fun _ hK_16' => ?_)
  refine a4 ?_
  refine wv (OV.assertNo (t2 := 51) (v := Value.agg [Tr.val xa, Tr.val xb].toArray) rfl ada ad2 rfl) ?_
  refine wv (OV.extract 1 rfl rfl) ?_
  refine wv (OV.extract 0 rfl rfl) ?_
  refine WL.nil ?_
  refine kg (hK_16' [(1, zI need), (6, zI 4), (15, Tr.val (.cat xa xb)), (17, zB false), (18, Value.agg [].toArray)] _ ?_)
  refine g9 rfl ?_
  refine a6 (fun _ hK_17' => ?_)
  refine a4 ?_
  refine wv (OV.assertNo (t2 := 51) (v := Value.agg [Tr.val xa, Tr.val xb].toArray) rfl ad0 aez rfl) ?_
  refine wv (OV.extract 1 rfl rfl) ?_
  refine wv (OV.extract 0 rfl rfl) ?_
  refine WL.nil ?_
  refine kg (hK_17' [(1, zI need), (6, zI 4), (15, Tr.val (.cat xa xb)), (20, zB false), (21, Value.agg (wl cs0).toArray)] _ ?_)
  refine g9 rfl ?_
  refine a6 (fun _ hK_18' => ?_)
  refine a4 ?_
  refine wv (OV.assertNo (t2 := 51) (v := Value.agg [Tr.val xa, Tr.val xb].toArray) rfl aak aa5 rfl) ?_
  refine wv (OV.extract 1 rfl rfl) ?_
  refine wv (OV.extract 0 rfl rfl) ?_
  refine WL.nil ?_
  refine kg (hK_18' [(1, zI need), (6, zI 4), (15, Tr.val (.cat xa xb)), (26, zB false), (27, Value.agg [Tr.val Tr.none, Tr.val Tr.none].toArray)] _ ?_)
  refine g9 rfl ?_
  refine a6 (fun _ hK_19' => ?_)
  refine a4 ?_
  refine wv (OV.assertNo (t2 := 51) (v := Value.agg [Tr.val xa, Tr.val xb].toArray) rfl aa7 ace rfl) ?_
  refine wv (OV.extract 1 rfl rfl) ?_
  refine wv (OV.extract 0 rfl rfl) ?_
  refine WL.nil ?_
  refine kg (hK_19' [(1, zI need), (6, zI 4), (15, Tr.val (.cat xa xb)), (37, zB false), (38, Value.agg [Tr.val Tr.none, Tr.val Tr.none].toArray)] _ ?_)
  refine g9 rfl ?_
  refine a6 (fun _ hK_20' => ?_)
  refine a4 ?_
  refine wv (OV.assertNo (t2 := 51) (v := Value.agg [Tr.val xa, Tr.val xb].toArray) rfl ab6 adi rfl) ?_
  refine wv (OV.extract 1 rfl rfl) ?_
  refine wv (OV.extract 0 rfl rfl) ?_
  refine WL.nil ?_
  refine kg (hK_20' [(1, zI need), (6, zI 4), (15, Tr.val (.cat xa xb)), (48, zB false), (49, Value.agg [Tr.val Tr.none, Tr.val Tr.none].toArray)] _ ?_)
  refine g9 rfl ?_
  refine a6 (fun _ hK_21' => ?_)
  refine a4 ?_
  refine wv (OV.assertYes (t' := 51) (v := Value.agg [Tr.val xa, Tr.val xb].toArray) rfl abx) ?_
  refine wv (OV.extract 1 rfl rfl) ?_
  refine wv (OV.extract 0 rfl rfl) ?_
  refine WL.nil ?_
  refine kg (hK_21' [(1, zI need), (6, zI 4), (15, Tr.val (.cat xa xb)), (59, zB true), (60, Value.agg [Tr.val xa, Tr.val xb].toArray)] _ ?_)
  refine v7 rfl ?_
  refine a6 (fun _ hK_22' => ?_)
  refine a4 ?_
  refine WL.make (MV.alloc amk) rfl rfl rfl (fun b_1' => ?_)
  refine WL.storeW (vs := [Tr.val xa, Tr.val xb]) 0 rfl rfl rfl rfl rfl al8 rfl (c9 (Tr.val_one _) (c9 (Tr.val_one _) m4)) rfl ?_
  refine WL.nil ?_
  refine kg (hK_22' [(1, zI need), (12, zP b_1')] _ ?_)
  refine o0 5 [] g8 (by kernel_rfl) rfl (fun T_1' hT_1' => ?_)
  refine fv (fun _ => OV.fieldAddr0 rfl ahf) ?_
  refine fv (fun _ => OV.load rfl (At.own 0 rfl) rfl n7) ?_
  obtain ⟨o_5', h⟩ := h
  refine FL.call aa4 (fun _ => rfl) (o_5') ⟨.inr (List.mem_of_getElem? (i := 0) rfl), trivial⟩ rfl (fun _ => rfl) rfl ?_
  refine fv (fun _ => OV.fieldAddr0 rfl ahi) ?_
  refine fv (fun _ => OV.load rfl (At.own 0 rfl) rfl n7) ?_
  refine FL.weak (L' := fun γ => [(1, zI need), (63, st (b7 xa 2)), (65, Tr.val xb)]) (fun γ => ⟨rfl, rfl, rfl, trivial⟩) (FL.nil (hT_1' (fun γ => [(1, zI need), (63, st (b7 xa 2)), (65, Tr.val xb)]) (fun γ => ?_)))
  obtain ⟨o_6', h⟩ := h
  refine WL.call (A := []) aa4 rfl (o_6') rfl ⟨.inr (List.mem_of_getElem? (i := 0) rfl), trivial⟩ rfl rfl ?_
  obtain ⟨o_7', h⟩ := h
  refine wv (OV.cat rfl rfl o_7') ?_
  refine wa ?_
  refine wa ?_
  refine WL.nil ?_
  exact kh (hK_10' () h) []
def alo (te : TypeId) (fre : Nat × Nat) (xa : Tr) (xb : Tr) (need : Int) (K : (List UInt8) → Prop) : Prop :=
 ∃ (J0 : Prop),
  (∀ (_ : Unit), J0 →
   (if (decide (0 < need)) = true then
    (([40] : List UInt8).length + (((b7 xa 0) ++ ([124] : List UInt8)) ++ (b7 xb 1)).length ≤ 9223372036854775807) ∧
    ((([40] : List UInt8) ++ (((b7 xa 0) ++ ([124] : List UInt8)) ++ (b7 xb 1))).length + ([41] : List UInt8).length ≤ 9223372036854775807) ∧
    K ((([40] : List UInt8) ++ (((b7 xa 0) ++ ([124] : List UInt8)) ++ (b7 xb 1))) ++ ([41] : List UInt8))
   else
    K (((b7 xa 0) ++ ([124] : List UInt8)) ++ (b7 xb 1)))) ∧
  (d4 Tryd.prog 51 [Tr.val xa, zI 0] (y9 te fre) [] (Ret (st (b7 xa 0)) [])) ∧
  ((b7 xa 0).length + ([124] : List UInt8).length ≤ 9223372036854775807) ∧
  (d4 Tryd.prog 51 [Tr.val xb, zI 1] (y9 te fre) [] (Ret (st (b7 xb 1)) [])) ∧
  (((b7 xa 0) ++ ([124] : List UInt8)).length + (b7 xb 1).length ≤ 9223372036854775807) ∧
  J0
theorem asx (te : TypeId) (fre : Nat × Nat) (xa : Tr) (xb : Tr) (need : Int) (K : (List UInt8) → Prop) (h : alo te fre xa xb need K) :
  d4 Tryd.prog 51 [Tr.val (.alt xa xb), zI need] [(1, .cells [zU 110, zU 10, zU 114, zU 13, zU 116, zU 9].toArray te fre)] [] (fun o => (∃ (v : List UInt8), K v ∧ o = .ret (st v) []) ∨ (False)) := by
 unfold alo at h
 refine c8 (n := 82) (L0 := [(0, Tr.val (.alt xa xb)), (1, zI need)]) Tryd.func51 rfl rfl rfl rfl (fun w0 M Q hE => ?_)
 refine a6 (fun _ hK => ?_)
 refine a4 ?_
 refine wa ?_
 refine WL.nil ?_
 refine kg (hK [(0, Tr.val (.alt xa xb)), (1, zI need)] _ ?_)
 refine a6 (fun _ hK_1' => ?_)
 refine a4 ?_
 refine wa ?_
 refine wa ?_
 refine WL.nil ?_
 refine kg (hK_1' [(0, Tr.val (.alt xa xb)), (1, zI need), (6, zI 4)] _ ?_)
 obtain ⟨J0, hJ, h⟩ := h
 refine m8 (X := Unit) (fun _ => J0) (fun _ => [(1, zI need), (5, st (((b7 xa 0) ++ ([124] : List UInt8)) ++ (b7 xb 1))), (6, zI 0)]) (fun _ => []) ?_ (fun K0_7' hK_7' => ?_)
 ·rintro _ hj
  replace h := hJ () hj
  show WC _ _ _ _ [(1, zI need), (5, st (((b7 xa 0) ++ ([124] : List UInt8)) ++ (b7 xb 1))), (6, zI 0)] []
  refine a6 (fun _ hK_8' => ?_)
  refine a6 (fun _ hK_9' => ?_)
  refine a4 ?_
  refine wm ?_
  refine wm ?_
  refine wv (OV.lss rfl rfl) ?_
  refine WL.nil ?_
  refine kg (hK_9' [(5, st (((b7 xa 0) ++ ([124] : List UInt8)) ++ (b7 xb 1))), (77, zB (decide (0 < need)))] _ ?_)
  refine b5 (b := decide (0 < need)) rfl (fun hb => ?_) (fun hb => ?_)
  ·replace h := j7 h hb
   refine a6 (fun _ hK_10' => ?_)
   refine a4 ?_
   refine wm ?_
   obtain ⟨o_4', h⟩ := h
   refine wv (OV.cat rfl rfl o_4') ?_
   obtain ⟨o_5', h⟩ := h
   refine wv (OV.cat rfl rfl o_5') ?_
   refine wa ?_
   refine WL.nil ?_
   refine kg (hK_10' [(4, st ((([40] : List UInt8) ++ (((b7 xa 0) ++ ([124] : List UInt8)) ++ (b7 xb 1))) ++ ([41] : List UInt8)))] _ ?_)
   refine b9 ?_
   exact hE.ret [] rfl rfl (.inl ⟨_, h, rfl⟩) (f9.of1 rfl (RV.tmp rfl))
  ·replace h := j6 h hb
   refine b8 ?_
   refine kg (hK_8' [(5, st (((b7 xa 0) ++ ([124] : List UInt8)) ++ (b7 xb 1)))] _ ?_)
   refine a6 (fun _ hK_11' => ?_)
   refine a4 ?_
   refine wm ?_
   refine wa ?_
   refine WL.nil ?_
   refine kg (hK_11' [(4, st (((b7 xa 0) ++ ([124] : List UInt8)) ++ (b7 xb 1)))] _ ?_)
   refine b9 ?_
   exact hE.ret [] rfl rfl (.inl ⟨_, h, rfl⟩) (f9.of1 rfl (RV.tmp rfl))
 ·skip
  refine a6 (fun _ hK_12' => ?_)
  refine a4 ?_
  refine wm ?_
  refine WL.nil ?_
  refine kg (hK_12' [(1, zI need), (6, zI 4), (15, Tr.val (.alt xa xb))] _ ?_)
  refine d8 ?_
  refine a6 (fun _ hK_13' => ?_)
  refine a4 ?_
  refine wv (OV.assertNo (t2 := 165) (v := Value.agg [Tr.val xa, Tr.val xb].toArray) rfl ada ad2 rfl) ?_
  refine wv (OV.extract 1 rfl rfl) ?_
  refine wv (OV.extract 0 rfl rfl) ?_
  refine WL.nil ?_
  refine kg (hK_13' [(1, zI need), (6, zI 4), (15, Tr.val (.alt xa xb)), (17, zB false), (18, Value.agg [].toArray)] _ ?_)
  refine g9 rfl ?_
  refine a6 (fun _ hK_14' => ?_)
  refine a4 ?_
  refine wv (OV.assertNo (t2 := 165) (v := Value.agg [Tr.val xa, Tr.val xb].toArray) rfl ad0 aez rfl) ?_
  refine wv (OV.extract 1 rfl rfl) ?_
  refine wv (OV.extract 0 rfl rfl) ?_
  refine WL.nil ?_
  refine kg (hK_14' [(1, zI need), (6, zI 4), (15, Tr.val (.alt xa xb)), (20, zB false), (21, Value.agg (wl cs0).toArray)] _ ?_)
  refine g9 rfl ?_
  refine a6 (fun _ hK_15' => ?_)
  refine a4 ?_
  refine wv (OV.assertYes (t' := 165) (v := Value.agg [Tr.val xa, Tr.val xb].toArray) rfl aak) ?_
  refine wv (OV.extract 1 rfl rfl) ?_
  refine wv (OV.extract 0 rfl rfl) ?_
  refine WL.nil ?_
  refine kg (hK_15' [(1, zI need), (6, zI 4), (15, Tr.val (.alt xa xb)), (26, zB true), (27, Value.agg [Tr.val xa, Tr.val xb].toArray)] _ ?_)
  refine v7 rfl ?_
  refine a6 (fun _ hK_16' => ?_)
  refine a4 ?_
  refine WL.make (MV.alloc ajy) rfl rfl rfl (fun b_1' => ?_)
  refine WL.storeW (vs := [Tr.val xa, Tr.val xb]) 0 rfl rfl rfl rfl rfl akl rfl (c9 (Tr.val_one _) (c9 (Tr.val_one _) m4)) rfl ?_
  refine WL.nil ?_
  refine kg (hK_16' [(1, zI need), (9, zP b_1')] _ ?_)
  refine o0 7 [] g8 (by kernel_rfl) rfl (fun T_1' hT_1' => ?_)
  refine fv (fun _ => OV.fieldAddr0 rfl af0) ?_
  refine fv (fun _ => OV.load rfl (At.own 0 rfl) rfl n7) ?_
  obtain ⟨o_6', h⟩ := h
  refine FL.call aa4 (fun _ => rfl) (o_6') ⟨.inr (List.mem_of_getElem? (i := 0) rfl), trivial⟩ rfl (fun _ => rfl) rfl ?_
  obtain ⟨o_7', h⟩ := h
  refine fv (fun _ => OV.cat rfl rfl o_7') ?_
  refine fv (fun _ => OV.fieldAddr0 rfl af4) ?_
  refine fv (fun _ => OV.load rfl (At.own 0 rfl) rfl n7) ?_
  obtain ⟨o_8', h⟩ := h
  refine FL.call aa4 (fun _ => rfl) (o_8') ⟨.inr (List.mem_of_getElem? (i := 0) rfl), trivial⟩ rfl (fun _ => rfl) rfl ?_
  refine FL.weak (L' := fun γ => [(1, zI need), (31, st ((b7 xa 0) ++ ([124] : List UInt8))), (34, st (b7 xb 1))]) (fun γ => ⟨rfl, rfl, rfl, trivial⟩) (FL.nil (hT_1' (fun γ => [(1, zI need), (31, st ((b7 xa 0) ++ ([124] : List UInt8))), (34, st (b7 xb 1))]) (fun γ => ?_)))
  obtain ⟨o_9', h⟩ := h
  refine wv (OV.cat rfl rfl o_9') ?_
  refine wa ?_
  refine wa ?_
  refine WL.nil ?_
  exact kh (hK_7' () h) []
def aj0 (te : TypeId) (fre : Nat × Nat) (xa : Tr) (need : Int) (K : (List UInt8) → Prop) : Prop :=
 ∃ (J0 : Prop),
  (∀ (_ : Unit), J0 →
   (if (decide (3 < need)) = true then
    (([40] : List UInt8).length + ((b7 xa 3) ++ ([42] : List UInt8)).length ≤ 9223372036854775807) ∧
    ((([40] : List UInt8) ++ ((b7 xa 3) ++ ([42] : List UInt8))).length + ([41] : List UInt8).length ≤ 9223372036854775807) ∧
    K ((([40] : List UInt8) ++ ((b7 xa 3) ++ ([42] : List UInt8))) ++ ([41] : List UInt8))
   else
    K ((b7 xa 3) ++ ([42] : List UInt8)))) ∧
  (d4 Tryd.prog 51 [Tr.val xa, zI 3] (y9 te fre) [] (Ret (st (b7 xa 3)) [])) ∧
  ((b7 xa 3).length + ([42] : List UInt8).length ≤ 9223372036854775807) ∧
  J0
theorem arl (te : TypeId) (fre : Nat × Nat) (xa : Tr) (need : Int) (K : (List UInt8) → Prop) (h : aj0 te fre xa need K) :
  d4 Tryd.prog 51 [Tr.val (.star xa), zI need] [(1, .cells [zU 110, zU 10, zU 114, zU 13, zU 116, zU 9].toArray te fre)] [] (fun o => (∃ (v : List UInt8), K v ∧ o = .ret (st v) []) ∨ (False)) := by
 unfold aj0 at h
 refine c8 (n := 82) (L0 := [(0, Tr.val (.star xa)), (1, zI need)]) Tryd.func51 rfl rfl rfl rfl (fun w0 M Q hE => ?_)
 refine a6 (fun _ hK => ?_)
 refine a4 ?_
 refine wa ?_
 refine WL.nil ?_
 refine kg (hK [(0, Tr.val (.star xa)), (1, zI need)] _ ?_)
 refine a6 (fun _ hK_1' => ?_)
 refine a4 ?_
 refine wa ?_
 refine wa ?_
 refine WL.nil ?_
 refine kg (hK_1' [(0, Tr.val (.star xa)), (1, zI need), (6, zI 4)] _ ?_)
 obtain ⟨J0, hJ, h⟩ := h
 refine m8 (X := Unit) (fun _ => J0) (fun _ => [(1, zI need), (5, st ((b7 xa 3) ++ ([42] : List UInt8))), (6, zI 3)]) (fun _ => []) ?_ (fun K0_11' hK_11' => ?_)
 ·rintro _ hj
  replace h := hJ () hj
  show WC _ _ _ _ [(1, zI need), (5, st ((b7 xa 3) ++ ([42] : List UInt8))), (6, zI 3)] []
  refine a6 (fun _ hK_12' => ?_)
  refine a6 (fun _ hK_13' => ?_)
  refine a4 ?_
  refine wm ?_
  refine wm ?_
  refine wv (OV.lss rfl rfl) ?_
  refine WL.nil ?_
  refine kg (hK_13' [(5, st ((b7 xa 3) ++ ([42] : List UInt8))), (77, zB (decide (3 < need)))] _ ?_)
  refine b5 (b := decide (3 < need)) rfl (fun hb => ?_) (fun hb => ?_)
  ·replace h := j7 h hb
   refine a6 (fun _ hK_14' => ?_)
   refine a4 ?_
   refine wm ?_
   obtain ⟨o_2', h⟩ := h
   refine wv (OV.cat rfl rfl o_2') ?_
   obtain ⟨o_3', h⟩ := h
   refine wv (OV.cat rfl rfl o_3') ?_
   refine wa ?_
   refine WL.nil ?_
   refine kg (hK_14' [(4, st ((([40] : List UInt8) ++ ((b7 xa 3) ++ ([42] : List UInt8))) ++ ([41] : List UInt8)))] _ ?_)
   refine b9 ?_
   exact hE.ret [] rfl rfl (.inl ⟨_, h, rfl⟩) (f9.of1 rfl (RV.tmp rfl))
  ·replace h := j6 h hb
   refine b8 ?_
   refine kg (hK_12' [(5, st ((b7 xa 3) ++ ([42] : List UInt8)))] _ ?_)
   refine a6 (fun _ hK_15' => ?_)
   refine a4 ?_
   refine wm ?_
   refine wa ?_
   refine WL.nil ?_
   refine kg (hK_15' [(4, st ((b7 xa 3) ++ ([42] : List UInt8)))] _ ?_)
   refine b9 ?_
   exact hE.ret [] rfl rfl (.inl ⟨_, h, rfl⟩) (f9.of1 rfl (RV.tmp rfl))
 ·skip
  refine a6 (fun _ hK_16' => ?_)
  refine a4 ?_
  refine wm ?_
  refine WL.nil ?_
  refine kg (hK_16' [(1, zI need), (6, zI 4), (15, Tr.val (.star xa))] _ ?_)
  refine d8 ?_
  refine a6 (fun _ hK_17' => ?_)
  refine a4 ?_
  refine wv (OV.assertNo (t2 := 167) (v := Value.agg [Tr.val xa].toArray) rfl ada ad2 rfl) ?_
  refine wv (OV.extract 1 rfl rfl) ?_
  refine wv (OV.extract 0 rfl rfl) ?_
  refine WL.nil ?_
  refine kg (hK_17' [(1, zI need), (6, zI 4), (15, Tr.val (.star xa)), (17, zB false), (18, Value.agg [].toArray)] _ ?_)
  refine g9 rfl ?_
  refine a6 (fun _ hK_18' => ?_)
  refine a4 ?_
  refine wv (OV.assertNo (t2 := 167) (v := Value.agg [Tr.val xa].toArray) rfl ad0 aez rfl) ?_
  refine wv (OV.extract 1 rfl rfl) ?_
  refine wv (OV.extract 0 rfl rfl) ?_
  refine WL.nil ?_
  refine kg (hK_18' [(1, zI need), (6, zI 4), (15, Tr.val (.star xa)), (20, zB false), (21, Value.agg (wl cs0).toArray)] _ ?_)
  refine g9 rfl ?_
  refine a6 (fun _ hK_19' => ?_)
  refine a4 ?_
  refine wv (OV.assertNo (t2 := 167) (v := Value.agg [Tr.val xa].toArray) rfl aak aa5 rfl) ?_
  refine wv (OV.extract 1 rfl rfl) ?_
  refine wv (OV.extract 0 rfl rfl) ?_
  refine WL.nil ?_
  refine kg (hK_19' [(1, zI need), (6, zI 4), (15, Tr.val (.star xa)), (26, zB false), (27, Value.agg [Tr.val Tr.none, Tr.val Tr.none].toArray)] _ ?_)
  refine g9 rfl ?_
  refine a6 (fun _ hK_20' => ?_)
  refine a4 ?_
  refine wv (OV.assertNo (t2 := 167) (v := Value.agg [Tr.val xa].toArray) rfl aa7 ace rfl) ?_
  refine wv (OV.extract 1 rfl rfl) ?_
  refine wv (OV.extract 0 rfl rfl) ?_
  refine WL.nil ?_
  refine kg (hK_20' [(1, zI need), (6, zI 4), (15, Tr.val (.star xa)), (37, zB false), (38, Value.agg [Tr.val Tr.none, Tr.val Tr.none].toArray)] _ ?_)
  refine g9 rfl ?_
  refine a6 (fun _ hK_21' => ?_)
  refine a4 ?_
  refine wv (OV.assertNo (t2 := 167) (v := Value.agg [Tr.val xa].toArray) rfl ab6 adi rfl) ?_
  refine wv (OV.extract 1 rfl rfl) ?_
  refine wv (OV.extract 0 rfl rfl) ?_
  refine WL.nil ?_
  refine kg (hK_21' [(1, zI need), (6, zI 4), (15, Tr.val (.star xa)), (48, zB false), (49, Value.agg [Tr.val Tr.none, Tr.val Tr.none].toArray)] _ ?_)
  refine g9 rfl ?_
  refine a6 (fun _ hK_22' => ?_)
  refine a4 ?_
  refine wv (OV.assertNo (t2 := 167) (v := Value.agg [Tr.val xa].toArray) rfl abx ac9 rfl) ?_
  refine wv (OV.extract 1 rfl rfl) ?_
  refine wv (OV.extract 0 rfl rfl) ?_
  refine WL.nil ?_
  refine kg (hK_22' [(1, zI need), (6, zI 4), (15, Tr.val (.star xa)), (59, zB false), (60, Value.agg [Tr.val Tr.none, Tr.val Tr.none].toArray)] _ ?_)
  refine g9 rfl ?_
  refine a6 (fun _ hK_23' => ?_)
  refine a4 ?_
  refine wv (OV.assertYes (t' := 167) (v := Value.agg [Tr.val xa].toArray) rfl aeo) ?_
  refine wv (OV.extract 1 rfl rfl) ?_
  refine wv (OV.extract 0 rfl rfl) ?_
  refine WL.nil ?_
  refine kg (hK_23' [(1, zI need), (6, zI 4), (15, Tr.val (.star xa)), (69, zB true), (70, Value.agg [Tr.val xa].toArray)] _ ?_)
  refine v7 rfl ?_
  refine a6 (fun _ hK_24' => ?_)
  refine a4 ?_
  refine WL.make (MV.alloc aj5) rfl rfl rfl (fun b_1' => ?_)
  refine WL.store (vs := [Tr.val xa]) (cs' := [Tr.val xa]) 0 rfl rfl rfl rfl akc (Nat.le_of_ble_eq_true rfl) (c9 (Tr.val_one _) m4) rfl rfl ?_
  refine WL.nil ?_
  refine kg (hK_24' [(1, zI need), (13, zP b_1')] _ ?_)
  refine a4 ?_
  refine wv (OV.fieldAddr0 rfl agk) ?_
  refine wv (OV.load rfl (At.own 0 rfl) rfl n7) ?_
  obtain ⟨o_4', h⟩ := h
  refine WL.call (A := []) aa4 rfl (o_4') rfl ⟨.inr (List.mem_of_getElem? (i := 0) rfl), trivial⟩ rfl rfl ?_
  obtain ⟨o_5', h⟩ := h
  refine wv (OV.cat rfl rfl o_5') ?_
  refine wa ?_
  refine wa ?_
  refine WL.nil ?_
  exact kh (hK_11' () h) []
def amw (te : TypeId) (fre : Nat × Nat) (xa : Tr) (xb : Tr) (need : Int) (K : (List UInt8) → Prop) : Prop :=
 ∃ (J0 : Prop),
  (∀ (_ : Unit), J0 →
   (if (decide (1 < need)) = true then
    (([40] : List UInt8).length + (((b7 xa 1) ++ ([38] : List UInt8)) ++ (b7 xb 2)).length ≤ 9223372036854775807) ∧
    ((([40] : List UInt8) ++ (((b7 xa 1) ++ ([38] : List UInt8)) ++ (b7 xb 2))).length + ([41] : List UInt8).length ≤ 9223372036854775807) ∧
    K ((([40] : List UInt8) ++ (((b7 xa 1) ++ ([38] : List UInt8)) ++ (b7 xb 2))) ++ ([41] : List UInt8))
   else
    K (((b7 xa 1) ++ ([38] : List UInt8)) ++ (b7 xb 2)))) ∧
  (d4 Tryd.prog 51 [Tr.val xa, zI 1] (y9 te fre) [] (Ret (st (b7 xa 1)) [])) ∧
  ((b7 xa 1).length + ([38] : List UInt8).length ≤ 9223372036854775807) ∧
  (d4 Tryd.prog 51 [Tr.val xb, zI 2] (y9 te fre) [] (Ret (st (b7 xb 2)) [])) ∧
  (((b7 xa 1) ++ ([38] : List UInt8)).length + (b7 xb 2).length ≤ 9223372036854775807) ∧
  J0
theorem as7 (te : TypeId) (fre : Nat × Nat) (xa : Tr) (xb : Tr) (need : Int) (K : (List UInt8) → Prop) (h : amw te fre xa xb need K) :
  d4 Tryd.prog 51 [Tr.val (.and xa xb), zI need] [(1, .cells [zU 110, zU 10, zU 114, zU 13, zU 116, zU 9].toArray te fre)] [] (fun o => (∃ (v : List UInt8), K v ∧ o = .ret (st v) []) ∨ (False)) := by
 unfold amw at h
 refine c8 (n := 82) (L0 := [(0, Tr.val (.and xa xb)), (1, zI need)]) Tryd.func51 rfl rfl rfl rfl (fun w0 M Q hE => ?_)
 refine a6 (fun _ hK => ?_)
 refine a4 ?_
 refine wa ?_
 refine WL.nil ?_
 refine kg (hK [(0, Tr.val (.and xa xb)), (1, zI need)] _ ?_)
 refine a6 (fun _ hK_1' => ?_)
 refine a4 ?_
 refine wa ?_
 refine wa ?_
 refine WL.nil ?_
 refine kg (hK_1' [(0, Tr.val (.and xa xb)), (1, zI need), (6, zI 4)] _ ?_)
 obtain ⟨J0, hJ, h⟩ := h
 refine m8 (X := Unit) (fun _ => J0) (fun _ => [(1, zI need), (5, st (((b7 xa 1) ++ ([38] : List UInt8)) ++ (b7 xb 2))), (6, zI 1)]) (fun _ => []) ?_ (fun K0_8' hK_8' => ?_)
 ·rintro _ hj
  replace h := hJ () hj
  show WC _ _ _ _ [(1, zI need), (5, st (((b7 xa 1) ++ ([38] : List UInt8)) ++ (b7 xb 2))), (6, zI 1)] []
  refine a6 (fun _ hK_9' => ?_)
  refine a6 (fun _ hK_10' => ?_)
  refine a4 ?_
  refine wm ?_
  refine wm ?_
  refine wv (OV.lss rfl rfl) ?_
  refine WL.nil ?_
  refine kg (hK_10' [(5, st (((b7 xa 1) ++ ([38] : List UInt8)) ++ (b7 xb 2))), (77, zB (decide (1 < need)))] _ ?_)
  refine b5 (b := decide (1 < need)) rfl (fun hb => ?_) (fun hb => ?_)
  ·replace h := j7 h hb
   refine a6 (fun _ hK_11' => ?_)
   refine a4 ?_
   refine wm ?_
   obtain ⟨o_4', h⟩ := h
   refine wv (OV.cat rfl rfl o_4') ?_
   obtain ⟨o_5', h⟩ := h
   refine wv (OV.cat rfl rfl o_5') ?_
   refine wa ?_
   refine WL.nil ?_
   refine kg (hK_11' [(4, st ((([40] : List UInt8) ++ (((b7 xa 1) ++ ([38] : List UInt8)) ++ (b7 xb 2))) ++ ([41] : List UInt8)))] _ ?_)
   refine b9 ?_
   exact hE.ret [] rfl rfl (.inl ⟨_, h, rfl⟩) (f9.of1 rfl (RV.tmp rfl))
  ·replace h := j6 h hb
   refine b8 ?_
   refine kg (hK_9' [(5, st (((b7 xa 1) ++ ([38] : List UInt8)) ++ (b7 xb 2)))] _ ?_)
   refine a6 (fun _ hK_12' => ?_)
   refine a4 ?_
   refine wm ?_
   refine wa ?_
   refine WL.nil ?_
   refine kg (hK_12' [(4, st (((b7 xa 1) ++ ([38] : List UInt8)) ++ (b7 xb 2)))] _ ?_)
   refine b9 ?_
   exact hE.ret [] rfl rfl (.inl ⟨_, h, rfl⟩) (f9.of1 rfl (RV.tmp rfl))
 ·skip
  refine a6 (fun _ hK_13' => ?_)
  refine a4 ?_
  refine wm ?_
  refine WL.nil ?_
  refine kg (hK_13' [(1, zI need), (6, zI 4), (15, Tr.val (.and xa xb))] _ ?_)
  refine d8 ?_
  refine a6 (fun _ hK_14' => ?_)
  refine a4 ?_
  refine wv (OV.assertNo (t2 := 163) (v := Value.agg [Tr.val xa, Tr.val xb].toArray) rfl ada ad2 rfl) ?_
  refine wv (OV.extract 1 rfl rfl) ?_
  refine wv (OV.extract 0 rfl rfl) ?_
  refine WL.nil ?_
  refine kg (hK_14' [(1, zI need), (6, zI 4), (15, Tr.val (.and xa xb)), (17, zB false), (18, Value.agg [].toArray)] _ ?_)
  refine g9 rfl ?_
  refine a6 (fun _ hK_15' => ?_)
  refine a4 ?_
  refine wv (OV.assertNo (t2 := 163) (v := Value.agg [Tr.val xa, Tr.val xb].toArray) rfl ad0 aez rfl) ?_
  refine wv (OV.extract 1 rfl rfl) ?_
  refine wv (OV.extract 0 rfl rfl) ?_
  refine WL.nil ?_
  refine kg (hK_15' [(1, zI need), (6, zI 4), (15, Tr.val (.and xa xb)), (20, zB false), (21, Value.agg (wl cs0).toArray)] _ ?_)
  refine g9 rfl ?_
  refine a6 (fun _ hK_16' => ?_)
  refine a4 ?_
  refine wv (OV.assertNo (t2 := 163) (v := Value.agg [Tr.val xa, Tr.val xb].toArray) rfl aak aa5 rfl) ?_
  refine wv (OV.extract 1 rfl rfl) ?_
  refine wv (OV.extract 0 rfl rfl) ?_
  refine WL.nil ?_
  refine kg (hK_16' [(1, zI need), (6, zI 4), (15, Tr.val (.and xa xb)), (26, zB false), (27, Value.agg [Tr.val Tr.none, Tr.val Tr.none].toArray)] _ ?_)
  refine g9 rfl ?_
  refine a6 (fun _ hK_17' => ?_)
  refine a4 ?_
  refine wv (OV.assertYes (t' := 163) (v := Value.agg [Tr.val xa, Tr.val xb].toArray) rfl aa7) ?_
  refine wv (OV.extract 1 rfl rfl) ?_
  refine wv (OV.extract 0 rfl rfl) ?_
  refine WL.nil ?_
  refine kg (hK_17' [(1, zI need), (6, zI 4), (15, Tr.val (.and xa xb)), (37, zB true), (38, Value.agg [Tr.val xa, Tr.val xb].toArray)] _ ?_)
  refine v7 rfl ?_
  refine a6 (fun _ hK_18' => ?_)
  refine a4 ?_
  refine WL.make (MV.alloc aki) rfl rfl rfl (fun b_1' => ?_)
  refine WL.storeW (vs := [Tr.val xa, Tr.val xb]) 0 rfl rfl rfl rfl rfl akf rfl (c9 (Tr.val_one _) (c9 (Tr.val_one _) m4)) rfl ?_
  refine WL.nil ?_
  refine kg (hK_18' [(1, zI need), (10, zP b_1')] _ ?_)
  refine o0 7 [] g8 (by kernel_rfl) rfl (fun T_1' hT_1' => ?_)
  refine fv (fun _ => OV.fieldAddr0 rfl agm) ?_
  refine fv (fun _ => OV.load rfl (At.own 0 rfl) rfl n7) ?_
  obtain ⟨o_6', h⟩ := h
  refine FL.call aa4 (fun _ => rfl) (o_6') ⟨.inr (List.mem_of_getElem? (i := 0) rfl), trivial⟩ rfl (fun _ => rfl) rfl ?_
  obtain ⟨o_7', h⟩ := h
  refine fv (fun _ => OV.cat rfl rfl o_7') ?_
  refine fv (fun _ => OV.fieldAddr0 rfl ago) ?_
  refine fv (fun _ => OV.load rfl (At.own 0 rfl) rfl n7) ?_
  obtain ⟨o_8', h⟩ := h
  refine FL.call aa4 (fun _ => rfl) (o_8') ⟨.inr (List.mem_of_getElem? (i := 0) rfl), trivial⟩ rfl (fun _ => rfl) rfl ?_
  refine FL.weak (L' := fun γ => [(1, zI need), (42, st ((b7 xa 1) ++ ([38] : List UInt8))), (45, st (b7 xb 2))]) (fun γ => ⟨rfl, rfl, rfl, trivial⟩) (FL.nil (hT_1' (fun γ => [(1, zI need), (42, st ((b7 xa 1) ++ ([38] : List UInt8))), (45, st (b7 xb 2))]) (fun γ => ?_)))
  obtain ⟨o_9', h⟩ := h
  refine wv (OV.cat rfl rfl o_9') ?_
  refine wa ?_
  refine wa ?_
  refine WL.nil ?_
  exact kh (hK_8' () h) []
def ain (te : TypeId) (fre : Nat × Nat) (xa : Tr) (xb : Tr) (need : Int) (K : (List UInt8) → Prop) : Prop :=
 ∃ (J0 : Prop),
  (∀ (_ : Unit), J0 →
   (if (decide (1 < need)) = true then
    (([40] : List UInt8).length + (((b7 xa 1) ++ ([45] : List UInt8)) ++ (b7 xb 2)).length ≤ 9223372036854775807) ∧
    ((([40] : List UInt8) ++ (((b7 xa 1) ++ ([45] : List UInt8)) ++ (b7 xb 2))).length + ([41] : List UInt8).length ≤ 9223372036854775807) ∧
    K ((([40] : List UInt8) ++ (((b7 xa 1) ++ ([45] : List UInt8)) ++ (b7 xb 2))) ++ ([41] : List UInt8))
   else
    K (((b7 xa 1) ++ ([45] : List UInt8)) ++ (b7 xb 2)))) ∧
  (d4 Tryd.prog 51 [Tr.val xa, zI 1] (y9 te fre) [] (Ret (st (b7 xa 1)) [])) ∧
  ((b7 xa 1).length + ([45] : List UInt8).length ≤ 9223372036854775807) ∧
  (d4 Tryd.prog 51 [Tr.val xb, zI 2] (y9 te fre) [] (Ret (st (b7 xb 2)) [])) ∧
  (((b7 xa 1) ++ ([45] : List UInt8)).length + (b7 xb 2).length ≤ 9223372036854775807) ∧
  J0
theorem ao3 (te : TypeId) (fre : Nat × Nat) (xa : Tr) (xb : Tr) (need : Int) (K : (List UInt8) → Prop) (h : ain te fre xa xb need K) :
  d4 Tryd.prog 51 [Tr.val (.minus xa xb), zI need] [(1, .cells [zU 110, zU 10, zU 114, zU 13, zU 116, zU 9].toArray te fre)] [] (fun o => (∃ (v : List UInt8), K v ∧ o = .ret (st v) []) ∨ (False)) := by
 unfold ain at h
 refine c8 (n := 82) (L0 := [(0, Tr.val (.minus xa xb)), (1, zI need)]) Tryd.func51 rfl rfl rfl rfl (fun w0 M Q hE => ?_)
 refine a6 (fun _ hK => ?_)
 refine a4 ?_
 refine wa ?_
 refine WL.nil ?_
 refine kg (hK [(0, Tr.val (.minus xa xb)), (1, zI need)] _ ?_)
 refine a6 (fun _ hK_1' => ?_)
 refine a4 ?_
 refine wa ?_
 refine wa ?_
 refine WL.nil ?_
 refine kg (hK_1' [(0, Tr.val (.minus xa xb)), (1, zI need), (6, zI 4)] _ ?_)
 obtain ⟨J0, hJ, h⟩ := h
 refine m8 (X := Unit) (fun _ => J0) (fun _ => [(1, zI need), (5, st (((b7 xa 1) ++ ([45] : List UInt8)) ++ (b7 xb 2))), (6, zI 1)]) (fun _ => []) ?_ (fun K0_9' hK_9' => ?_)
 ·rintro _ hj
  replace h := hJ () hj
  show WC _ _ _ _ [(1, zI need), (5, st (((b7 xa 1) ++ ([45] : List UInt8)) ++ (b7 xb 2))), (6, zI 1)] []
  refine a6 (fun _ hK_10' => ?_)
  refine a6 (fun _ hK_11' => ?_)
  refine a4 ?_
  refine wm ?_
  refine wm ?_
  refine wv (OV.lss rfl rfl) ?_
  refine WL.nil ?_
  refine kg (hK_11' [(5, st (((b7 xa 1) ++ ([45] : List UInt8)) ++ (b7 xb 2))), (77, zB (decide (1 < need)))] _ ?_)
  refine b5 (b := decide (1 < need)) rfl (fun hb => ?_) (fun hb => ?_)
  ·replace h := j7 h hb
   refine a6 (fun _ hK_12' => ?_)
   refine a4 ?_
   refine wm ?_
   obtain ⟨o_4', h⟩ := h
   refine wv (OV.cat rfl rfl o_4') ?_
   obtain ⟨o_5', h⟩ := h
   refine wv (OV.cat rfl rfl o_5') ?_
   refine wa ?_
   refine WL.nil ?_
   refine kg (hK_12' [(4, st ((([40] : List UInt8) ++ (((b7 xa 1) ++ ([45] : List UInt8)) ++ (b7 xb 2))) ++ ([41] : List UInt8)))] _ ?_)
   refine b9 ?_
   exact hE.ret [] rfl rfl (.inl ⟨_, h, rfl⟩) (f9.of1 rfl (RV.tmp rfl))
  ·replace h := j6 h hb
   refine b8 ?_
   refine kg (hK_10' [(5, st (((b7 xa 1) ++ ([45] : List UInt8)) ++ (b7 xb 2)))] _ ?_)
   refine a6 (fun _ hK_13' => ?_)
   refine a4 ?_
   refine wm ?_
   refine wa ?_
   refine WL.nil ?_
   refine kg (hK_13' [(4, st (((b7 xa 1) ++ ([45] : List UInt8)) ++ (b7 xb 2)))] _ ?_)
   refine b9 ?_
   exact hE.ret [] rfl rfl (.inl ⟨_, h, rfl⟩) (f9.of1 rfl (RV.tmp rfl))
 ·skip
  refine a6 (fun _ hK_14' => ?_)
  refine a4 ?_
  refine wm ?_
  refine WL.nil ?_
  refine kg (hK_14' [(1, zI need), (6, zI 4), (15, Tr.val (.minus xa xb))] _ ?_)
  refine d8 ?_
  refine a6 (fun _ hK_15' => ?_)
  refine a4 ?_
  refine wv (OV.assertNo (t2 := 164) (v := Value.agg [Tr.val xa, Tr.val xb].toArray) rfl ada ad2 rfl) ?_
  refine wv (OV.extract 1 rfl rfl) ?_
  refine wv (OV.extract 0 rfl rfl) ?_
  refine WL.nil ?_
  refine kg (hK_15' [(1, zI need), (6, zI 4), (15, Tr.val (.minus xa xb)), (17, zB false), (18, Value.agg [].toArray)] _ ?_)
  refine g9 rfl ?_
  refine a6 (fun _ hK_16' => ?_)
  refine a4 ?_
  refine wv (OV.assertNo (t2 := 164) (v := Value.agg [Tr.val xa, Tr.val xb].toArray) rfl ad0 aez rfl) ?_
  refine wv (OV.extract 1 rfl rfl) ?_
  refine wv (OV.extract 0 rfl rfl) ?_
  refine WL.nil ?_
  refine kg (hK_16' [(1, zI need), (6, zI 4), (15, Tr.val (.minus xa xb)), (20, zB false), (21, Value.agg (wl cs0).toArray)] _ ?_)
  refine g9 rfl ?_
  refine a6 (fun _ hK_17' => ?_)
  refine a4 ?_
  refine wv (OV.assertNo (t2 := 164) (v := Value.agg [Tr.val xa, Tr.val xb].toArray) rfl aak aa5 rfl) ?_
  refine wv (OV.extract 1 rfl rfl) ?_
  refine wv (OV.extract 0 rfl rfl) ?_
  refine WL.nil ?_
  refine kg (hK_17' [(1, zI need), (6, zI 4), (15, Tr.val (.minus xa xb)), (26, zB false), (27, Value.agg [Tr.val Tr.none, Tr.val Tr.none].toArray)] _ ?_)
  refine g9 rfl ?_
  refine a6 (fun _ hK_18' => ?_)
  refine a4 ?_
  refine wv (OV.assertNo (t2 := 164) (v := Value.agg [Tr.val xa, Tr.val xb].toArray) rfl aa7 ace rfl) ?_
  refine wv (OV.extract 1 rfl rfl) ?_
  refine wv (OV.extract 0 rfl rfl) ?_
  refine WL.nil ?_
  refine kg (hK_18' [(1, zI need), (6, zI 4), (15, Tr.val (.minus xa xb)), (37, zB false), (38, Value.agg [Tr.val Tr.none, Tr.val Tr.none].toArray)] _ ?_)
  refine g9 rfl ?_
  refine a6 (fun _ hK_19' => ?_)
  refine a4 ?_
  refine wv (OV.assertYes (t' := 164) (v := Value.agg [Tr.val xa, Tr.val xb].toArray) rfl ab6) ?_
  refine wv (OV.extract 1 rfl rfl) ?_
  refine wv (OV.extract 0 rfl rfl) ?_
  refine WL.nil ?_
  refine kg (hK_19' [(1, zI need), (6, zI 4), (15, Tr.val (.minus xa xb)), (48, zB true), (49, Value.agg [Tr.val xa, Tr.val xb].toArray)] _ ?_)
  refine v7 rfl ?_
  refine a6 (fun _ hK_20' => ?_)
  refine a4 ?_
  refine WL.make (MV.alloc ako) rfl rfl rfl (fun b_1' => ?_)
  refine WL.storeW (vs := [Tr.val xa, Tr.val xb]) 0 rfl rfl rfl rfl rfl aka rfl (c9 (Tr.val_one _) (c9 (Tr.val_one _) m4)) rfl ?_
  refine WL.nil ?_
  refine kg (hK_20' [(1, zI need), (11, zP b_1')] _ ?_)
  refine o0 7 [] g8 (by kernel_rfl) rfl (fun T_1' hT_1' => ?_)
  refine fv (fun _ => OV.fieldAddr0 rfl agd) ?_
  refine fv (fun _ => OV.load rfl (At.own 0 rfl) rfl n7) ?_
  obtain ⟨o_6', h⟩ := h
  refine FL.call aa4 (fun _ => rfl) (o_6') ⟨.inr (List.mem_of_getElem? (i := 0) rfl), trivial⟩ rfl (fun _ => rfl) rfl ?_
  obtain ⟨o_7', h⟩ := h
  refine fv (fun _ => OV.cat rfl rfl o_7') ?_
  refine fv (fun _ => OV.fieldAddr0 rfl agn) ?_
  refine fv (fun _ => OV.load rfl (At.own 0 rfl) rfl n7) ?_
  obtain ⟨o_8', h⟩ := h
  refine FL.call aa4 (fun _ => rfl) (o_8') ⟨.inr (List.mem_of_getElem? (i := 0) rfl), trivial⟩ rfl (fun _ => rfl) rfl ?_
  refine FL.weak (L' := fun γ => [(1, zI need), (53, st ((b7 xa 1) ++ ([45] : List UInt8))), (56, st (b7 xb 2))]) (fun γ => ⟨rfl, rfl, rfl, trivial⟩) (FL.nil (hT_1' (fun γ => [(1, zI need), (53, st ((b7 xa 1) ++ ([45] : List UInt8))), (56, st (b7 xb 2))]) (fun γ => ?_)))
  obtain ⟨o_9', h⟩ := h
  refine wv (OV.cat rfl rfl o_9') ?_
  refine wa ?_
  refine wa ?_
  refine WL.nil ?_
  exact kh (hK_9' () h) []
theorem agt (a b : Tr) (h : a.high ≤ 4000) : d4 Tryd.prog 26 [a.val, b.val] [] [] (Ret (.bool (decide (a.whole = b.whole))) []) :=
 d4.one (ayn a b (fun v => v = decide (a.whole = b.whole)) ⟨aab a, aab b, ⟨Tr.whole_some a, by rw [Tr.whole_high]; exact h⟩, rfl⟩)
theorem ado : ∀ x : Tr, (o4 x).length ≤ 4102 * x.size
 | .none | .eps => by simp [o4, Tr.size]
 | .cls s => by have := awh s; simp only [o4, Tr.size]; omega
 | .cat a b | .alt a b | .and a b | .minus a b => by
  have h1 := ado a; have h2 := ado b
  simp only [o4, Tr.size, List.length_append, List.length_cons, List.length_nil]
  have h3 := fun n => adz a n (o4 a); have h4 := fun n => adz b n (o4 b)
  have h5 := h3 0; have h6 := h3 1; have h7 := h3 2; have h8 := h4 1; have h9 := h4 2; have h10 := h4 3
  omega
 | .star a => by
  have h1 := ado a; have h3 := adz a 3 (o4 a)
  simp only [o4, Tr.size, List.length_append, List.length_cons, List.length_nil]
  omega
theorem aaj (x : Tr) (n : Int) : (b7 x n).length ≤ 4104 * x.size := by
 have h1 := ado x; have h2 := adz x n (o4 x); have h3 := x.size_pos
 unfold b7; omega
theorem awp {x : Tr} {n r : Int} (h : aea x = r) : b7 x n = if decide (r < n) = true then ([40] ++ o4 x) ++ [41] else o4 x := by
 unfold b7 aey; rw [h]; simp
theorem ac7 {x : Tr} {n r : Int} {s : List UInt8} (hr : aea x = r) (hs : o4 x = s) (hb : x.size ≤ 1099511627776) : if decide (r < n) = true then ([40] : List UInt8).length + s.length ≤ 9223372036854775807 ∧ (([40] : List UInt8) ++ s).length + ([41] : List UInt8).length ≤ 9223372036854775807 ∧ (([40] : List UInt8) ++ s) ++ ([41] : List UInt8) = b7 x n else s = b7 x n := by
 have hl := ado x
 rw [awp hr, ← hs]
 split
 ·simp only [List.length_append, List.length_cons, List.length_nil]
  exact ⟨by omega, by omega, trivial⟩
 ·rfl
theorem aa8 (te : TypeId) (fre : Nat × Nat) : ∀ (x : Tr) (n : Int), x.size ≤ 1099511627776 → d4 Tryd.prog 51 [x.val, .int .i64 n] (y9 te fre) [] (Ret (st (b7 x n)) [])
 | .none, n, hb => d4.one (aqu te fre n (fun v => v = b7 .none n) ⟨True, fun _ _ => ac7 rfl rfl hb, trivial⟩)
 | .eps, n, hb => d4.one (asr te fre n (fun v => v = b7 .eps n) ⟨True, fun _ _ => ac7 rfl rfl hb, trivial⟩)
 | .cls s, n, hb => d4.one (asf te fre s n (fun v => v = b7 (.cls s) n) ⟨True, fun _ _ => ac7 rfl rfl hb, trivial⟩)
 | .cat a b, n, hb => d4.one (atc te fre a b n (fun v => v = b7 (.cat a b) n) (by
   have hb' := hb; simp only [Tr.size] at hb'
   have h1 := aaj a 2; have h2 := aaj b 3
   exact ⟨True, fun _ _ => ac7 rfl rfl hb, aa8 te fre a 2 (by omega), aa8 te fre b 3 (by omega), by omega, trivial⟩))
 | .alt a b, n, hb => d4.one (asx te fre a b n (fun v => v = b7 (.alt a b) n) (by
   have hb' := hb; simp only [Tr.size] at hb'
   have h1 := aaj a 0; have h2 := aaj b 1
   exact ⟨True, fun _ _ => ac7 rfl rfl hb, aa8 te fre a 0 (by omega), by simp only [List.length_cons, List.length_nil]; omega, aa8 te fre b 1 (by omega), by simp only [List.length_append, List.length_cons, List.length_nil]; omega, trivial⟩))
 | .and a b, n, hb => d4.one (as7 te fre a b n (fun v => v = b7 (.and a b) n) (by
   have hb' := hb; simp only [Tr.size] at hb'
   have h1 := aaj a 1; have h2 := aaj b 2
   exact ⟨True, fun _ _ => ac7 rfl rfl hb, aa8 te fre a 1 (by omega), by simp only [List.length_cons, List.length_nil]; omega, aa8 te fre b 2 (by omega), by simp only [List.length_append, List.length_cons, List.length_nil]; omega, trivial⟩))
 | .minus a b, n, hb => d4.one (ao3 te fre a b n (fun v => v = b7 (.minus a b) n) (by
   have hb' := hb; simp only [Tr.size] at hb'
   have h1 := aaj a 1; have h2 := aaj b 2
   exact ⟨True, fun _ _ => ac7 rfl rfl hb, aa8 te fre a 1 (by omega), by simp only [List.length_cons, List.length_nil]; omega, aa8 te fre b 2 (by omega), by simp only [List.length_append, List.length_cons, List.length_nil]; omega, trivial⟩))
 | .star a, n, hb => d4.one (arl te fre a n (fun v => v = b7 (.star a) n) (by
   have hb' := hb; simp only [Tr.size] at hb'
   have h1 := aaj a 3
   exact ⟨True, fun _ _ => ac7 rfl rfl hb, aa8 te fre a 3 (by omega), by simp only [List.length_cons, List.length_nil]; omega, trivial⟩))
end Go.Proofs.YtohnchdnkbadaaaDoor
namespace Go.Proofs.YtohnchdnkbadaaaDoor
open Go Go.ChangeShapes Go.WideShapes Go.ChangeAt Go.RowKit
set_option maxRecDepth 100000 in
theorem anr (os : Os) (args : Array Value) : laidMetH Tryd.prog aee ((ajf os).forCall (fun _ _ => 0) ⟨#[], args, []⟩).memory := by
 rw [alv]
 exact ⟨_, ⟨1, 214, abe, 8, [], [], by kernel_rfl, by kernel_rfl, by kernel_rfl, by kernel_rfl, rfl, rfl⟩, by decide, fun b off h => by
    have h' : MemPlace.cell b off ∈ [MemPlace.cell 1 0, .cell 1 1, .cell 1 2, .cell 1 3, .cell 1 4, .cell 1 5] := h
    have hb : b = 1 := by
     simp at h'
     omega
    subst hb
    refine ⟨⟨_, _, ahk os _⟩, fun u v hc => ?_⟩
    simp only [World.cell?, ahk os] at hc
    simp at h'
    rcases h' with rfl | rfl | rfl | rfl | rfl | rfl <;> simp [abe] at hc⟩
theorem d4.pureE {f : FuncId} {vs : List Value} {v : Value} (h : ∀ te fre, d4 Tryd.prog f vs (y9 te fre) [] (Ret v [])) : ai3 f vs.toArray v := fun w ⟨te, fre, he⟩ => by
 refine (h te fre w [] rfl List.nodup_nil (fun k hk => by cases hk) (fun p hp => by obtain rfl := List.mem_singleton.1 hp; exact ⟨he, fun hx => by cases hx⟩)).mono ?_
 rintro en w' ⟨H', hS, hh⟩
 rcases hS with ⟨r, rfl, hS⟩ | ⟨c, rfl, hS⟩
 ·cases hS; exact ⟨rfl, hh.toBelow⟩
 ·cases hS
end Go.Proofs.YtohnchdnkbadaaaDoor
namespace Go.Proofs.YtohnchdnkbadaaaDoor
open Go Go.RowKit
def r9 (n : Int) : List Value := [.int .i64 n]
theorem aa2 (n : Int) : (r9 n).length = 1 := rfl
theorem awv (t : List UInt8) (j : Int) : 0 ≤ nx t j ∧ nx t j < 256 := by
 unfold nx
 have := (t.getD j.toNat 0).toNat_lt
 omega
theorem azn {t : List UInt8} {j : Int} (h : (t.length : Int) ≤ j) : nx t j = 0 := by
 unfold nx
 rw [List.getD_eq_getElem?_getD, List.getElem?_eq_none (by omega)]; rfl
theorem RP.total (t : List UInt8) : ∀ (n : Nat) (x : Tr) (j : Int), 0 ≤ j → (t.length : Int) - j < n → ∃ r, RP t x j r
 | 0, x, j, h0, h => ⟨_, .zero (by omega)⟩
 | n + 1, x, j, h0, h => by
  by_cases hl : j < t.length
  ·by_cases h1 : nx t j = 42 ∨ nx t j = 43 ∨ nx t j = 63
   ·obtain ⟨r, hr⟩ := RP.total t n (aks (nx t j) x) (j + 1) (by omega) (by omega)
    exact ⟨r, .one hl h1 hr⟩
   ·by_cases h2 : nx t j = 123
    ·cases hb : y8 t x j with
     | error e => exact ⟨_, .braceE hl h2 hb⟩
     | ok p =>
      obtain ⟨y, k⟩ := p
      have := ah9 hb h0 hl
      obtain ⟨r, hr⟩ := RP.total t n y k (by omega) (by omega)
      exact ⟨r, .brace hl h2 hb hr⟩
    ·exact ⟨_, .zero (by omega)⟩
  ·exact ⟨_, .zero (by omega)⟩
theorem RP.tot (t : List UInt8) (x : Tr) {j : Int} (h0 : 0 ≤ j) : ∃ r, RP t x j r := RP.total t ((t.length : Int) - j + 1).toNat x j h0 (by omega)
abbrev Tot (t : List UInt8) (m : Md) (i : Int) : Prop := ∀ d, ∃ r, PR t m d i r
theorem ajk {t : List UInt8} {i : Int} (hA : ∀ j, i < j → Tot t .alt j) : ∀ (n : Nat) (acc : Option Tr) (j : Int), i ≤ j → 0 ≤ j → (t.length : Int) - j < n → Tot t (.row acc) j
 | 0, acc, j, _, h0, h, d => ⟨_, .rowZ (by omega)⟩
 | n + 1, acc, j, hi, h0, h, d => by
  by_cases hl : j < t.length
  ·by_cases h1 : nx t j = 124 ∨ nx t j = 38 ∨ nx t j = 45 ∨ nx t j = 41
   ·exact ⟨_, .rowZ (by omega)⟩
   by_cases h2 : nx t j = 42 ∨ nx t j = 43 ∨ nx t j = 63 ∨ nx t j = 123
   ·exact ⟨_, .rowB hl h2⟩
   by_cases h3 : nx t j = 40
   ·by_cases hd : d < 1000
    ·obtain ⟨q, hq⟩ := hA (j + 1) (by omega) (d + 1)
     cases q with
     | error e => exact ⟨_, .rowPE hl h3 hd hq⟩
     | ok p =>
      obtain ⟨x, k⟩ := p
      have hk := hq.ends (by omega) (by omega) _ _ rfl
      by_cases hkl : k < t.length
      ·obtain ⟨q2, hq2⟩ := RP.tot t x (j := k + 1) (by omega)
       cases q2 with
       | error e => exact ⟨_, .rowPR hl h3 hd hq hkl hq2⟩
       | ok p2 =>
        obtain ⟨y, l⟩ := p2
        have hl2 := hq2.ends (by omega) (by omega) _ _ rfl
        obtain ⟨r, hr⟩ := ajk hA n (ak3 acc y) l (by omega) (by omega) (by omega) d
        exact ⟨r, .rowP hl h3 hd hq hkl hq2 hr⟩
      ·exact ⟨_, .rowO hl h3 hd hq hkl⟩
    ·exact ⟨_, .rowN hl h3 (by omega)⟩
   ·have hc : nx t j ∉ [124, 38, 45, 41, 42, 43, 63, 123, 40] := by simp; omega
    rcases hm : l9 t j with ⟨s, k, e, p⟩
    by_cases hz : e = 0 ∧ p = 0
    ·obtain ⟨rfl, rfl⟩ := hz
     have hk := afz hm h0
     obtain ⟨q2, hq2⟩ := RP.tot t (.cls s) (j := k) (by omega)
     cases q2 with
     | error e => exact ⟨_, .rowCR hl hc hm hq2⟩
     | ok p2 =>
      obtain ⟨y, l⟩ := p2
      have hl2 := hq2.ends (by omega) (by omega) _ _ rfl
      obtain ⟨r, hr⟩ := ajk hA n (ak3 acc y) l (by omega) (by omega) (by omega) d
      exact ⟨r, .rowC hl hc hm hq2 hr⟩
    ·exact ⟨_, .rowCE hl hc hm hz⟩
  ·exact ⟨_, .rowZ (by omega)⟩
theorem ajt {t : List UInt8} {i : Int} (hR : ∀ j, i ≤ j → 0 ≤ j → Tot t (.row none) j) : ∀ (n : Nat) (x : Tr) (j : Int), i ≤ j → 0 ≤ j → (t.length : Int) - j < n → Tot t (.meetL x) j
 | 0, x, j, _, h0, h, d => ⟨_, .meetZ (by omega)⟩
 | n + 1, x, j, hi, h0, h, d => by
  by_cases hc : j < t.length ∧ (nx t j = 38 ∨ nx t j = 45)
  ·obtain ⟨q, hq⟩ := hR (j + 1) (by omega) (by omega) d
   cases q with
   | error e => exact ⟨_, .meetLE hc.1 hc.2 hq⟩
   | ok p =>
    obtain ⟨y, k⟩ := p
    have hk := hq.ends (by omega) (by omega) _ _ rfl
    obtain ⟨r, hr⟩ := ajt hR n (arz (nx t j) x y) k (by omega) (by omega) (by omega) d
    exact ⟨r, .meetL hc.1 hc.2 hq hr⟩
  ·exact ⟨_, .meetZ hc⟩
theorem am6 {t : List UInt8} {i : Int} (hM : ∀ j, i ≤ j → 0 ≤ j → Tot t .meet j) : ∀ (n : Nat) (x : Tr) (j : Int), i ≤ j → 0 ≤ j → (t.length : Int) - j < n → Tot t (.altL x) j
 | 0, x, j, _, h0, h, d => ⟨_, .altZ (by omega)⟩
 | n + 1, x, j, hi, h0, h, d => by
  by_cases hc : j < t.length ∧ nx t j = 124
  ·obtain ⟨q, hq⟩ := hM (j + 1) (by omega) (by omega) d
   cases q with
   | error e => exact ⟨_, .altLE hc.1 hc.2 hq⟩
   | ok p =>
    obtain ⟨y, k⟩ := p
    have hk := hq.ends (by omega) (by omega) _ _ rfl
    obtain ⟨r, hr⟩ := am6 hM n (.alt x y) k (by omega) (by omega) (by omega) d
    exact ⟨r, .altL hc.1 hc.2 hq hr⟩
  ·exact ⟨_, .altZ hc⟩
theorem an9 (t : List UInt8) : ∀ (n : Nat) (i : Int), 0 ≤ i → (t.length : Int) - i < n → Tot t .alt i
 | 0, i, h0, h, d => ⟨_, .alt (.meet (.rowZ (by omega)) (.meetZ (by omega))) (.altZ (by omega))⟩
 | n + 1, i, h0, h, d => by
  have hA : ∀ j, i < j → Tot t .alt j := fun j hj => an9 t n j (by omega) (by omega)
  have hR : ∀ j, i ≤ j → 0 ≤ j → Tot t (.row none) j := fun j hj h0 => ajk hA ((t.length : Int) - j + 1).toNat none j hj h0 (by omega)
  have hM : ∀ j, i ≤ j → 0 ≤ j → Tot t .meet j := fun j hj h0 d => by
   obtain ⟨q, hq⟩ := hR j hj h0 d
   cases q with
   | error e => exact ⟨_, .meetE hq⟩
   | ok p =>
    obtain ⟨x, k⟩ := p
    by_cases hjl : j ≤ t.length
    ·have hk := hq.ends (by omega) (by omega) _ _ rfl
     obtain ⟨r, hr⟩ := ajt hR ((t.length : Int) - k + 1).toNat x k (by omega) (by omega) (by omega) d
     exact ⟨r, .meet hq hr⟩
    ·have : k = j := by cases hq with
      | rowZ => rfl
      | _ => omega
     exact ⟨_, .meet hq (.meetZ (by omega))⟩
  obtain ⟨q, hq⟩ := hM i (by omega) h0 d
  cases q with
  | error e => exact ⟨_, .altE hq⟩
  | ok p =>
   obtain ⟨x, k⟩ := p
   by_cases hil : i ≤ t.length
   ·have hk := hq.ends (by omega) (by omega) _ _ rfl
    obtain ⟨r, hr⟩ := am6 hM ((t.length : Int) - k + 1).toNat x k (by omega) (by omega) (by omega) d
    exact ⟨r, .alt hq hr⟩
   ·exact ⟨_, .alt (.meet (.rowZ (by omega)) (.meetZ (by omega))) (.altZ (by omega))⟩
def Tr.solid : Tr → Prop
 | .none => False
 | .eps | .cls _ => True
 | .cat a b => a.solid ∧ b.solid
 | .alt a b => a.solid ∧ b.solid
 | .star a => a.solid
 | .and a b => a.solid ∧ b.solid
 | .minus a b => a.solid ∧ b.solid
theorem ahr {y : Tr} (hy : y.solid) : ∀ (k : Nat) {x : Tr}, x.solid → (ac5 x y k).solid
 | 0, _, hx => hx
 | k + 1, _, hx => ahr hy k ⟨hx, hy⟩
theorem apq {x : Tr} (h : x.solid) (m n : Int) : (aai x m n).solid := by
 unfold aai
 split
 ·exact h
 ·split
  ·exact trivial
  ·have h1 : (if m = 0 then Tr.alt x .eps else x).solid := by split <;> first | exact ⟨h, trivial⟩ | exact h
   have h2 := ahr h (m - 1).toNat h1
   simp only
   split
   ·exact ⟨h2, h⟩
   ·exact ahr (y := .alt x .eps) ⟨h, trivial⟩ _ h2
theorem ank {t : List UInt8} {x y : Tr} {j k : Int} (h : y8 t x j = .ok (y, k)) (hx : x.solid) : y.solid := by
 unfold y8 at h
 split at h
 ·cases h
 ·split at h
  ·cases h
  ·split at h
   ·split at h
    ·cases h
    ·simp only [Except.ok.injEq, Prod.mk.injEq] at h
     rw [← h.1]; exact apq hx _ _
   ·cases h
theorem RP.solid {t : List UInt8} {x : Tr} {j : Int} {r : ad7} (h : RP t x j r) : x.solid → ∀ y k, r = .ok (y, k) → y.solid := by
 induction h with
 | zero => intro hx y k e; cases e; exact hx
 | one h1 h2 _ ih =>
  intro hx y k e
  refine ih ?_ y k e
  unfold aks
  split
  ·exact hx
  ·split
   ·exact ⟨hx, hx⟩
   ·exact ⟨hx, trivial⟩
 | brace h1 h2 h3 _ ih => intro hx y k e; exact ih (ank h3 hx) y k e
 | braceE => intro hx y k e; cases e
def Md.solid : Md → Prop
 | .altL x => x.solid
 | .meetL x => x.solid
 | .row (some x) => x.solid
 | _ => True
theorem al2 {acc : Option Tr} {y : Tr} (h : (Md.row acc).solid) (hy : y.solid) : (Md.row (ak3 acc y)).solid := by
 cases acc with
 | none => exact hy
 | some x => exact ⟨h, hy⟩
theorem PR.solid {t : List UInt8} {m : Md} {d : Nat} {i : Int} {r : ad7} (h : PR t m d i r) : m.solid → ∀ y k, r = .ok (y, k) → y.solid := by
 induction h with
 | alt _ _ ih1 ih2 => intro _ y k e; exact ih2 (ih1 trivial _ _ rfl) y k e
 | altL _ _ _ _ ih1 ih2 => intro h y k e; exact ih2 ⟨h, ih1 trivial _ _ rfl⟩ y k e
 | «meet» _ _ ih1 ih2 => intro _ y k e; exact ih2 (ih1 trivial _ _ rfl) y k e
 | meetL h1 h2 _ _ ih1 ih2 =>
  intro h y k e
  refine ih2 ?_ y k e
  have := ih1 trivial _ _ rfl
  unfold arz
  show Tr.solid _
  split <;> exact ⟨h, this⟩
 | altZ _ => intro h y k e; cases e; exact h
 | meetZ _ => intro h y k e; cases e; exact h
 | @rowZ d acc j _ => intro h y k e; cases e; cases acc <;> first | exact trivial | exact h
 | rowC h1 h2 h3 h4 _ ih => intro h y k e; exact ih (al2 h (h4.solid trivial _ _ rfl)) y k e
 | rowP h1 h2 h3 _ h5 h6 _ ih1 ih2 => intro h y k e; exact ih2 (al2 h (h6.solid (ih1 trivial _ _ rfl) _ _ rfl)) y k e
 | _ => intro _ y k e; cases e
theorem Tr.whole_of : ∀ {x : Tr}, x.solid → x.whole = x
 | .none, h => h.elim
 | .eps, _ | .cls _, _ => rfl
 | .cat a b, h | .alt a b, h | .and a b, h | .minus a b, h => by simp only [Tr.whole, Tr.whole_of h.1, Tr.whole_of h.2]
 | .star a, h => by simp only [Tr.whole, Tr.whole_of (x := a) h]
theorem anv {t : List UInt8} {j : Int} {s : CS} {k e p : Int} (h : l9 t j = (s, k, e, p)) (hz : ¬ (e = 0 ∧ p = 0)) : 0 < e := by
 unfold l9 at h
 split at h
 ·simp only [Prod.mk.injEq] at h; omega
 ·split at h
  ·simp only [Prod.mk.injEq] at h; omega
  ·simp only [Prod.mk.injEq] at h; omega
theorem aqe {t : List UInt8} {j : Int} {e : Int × Int} (h : acj t j = .error e) : 0 < e.1 := by
 unfold acj at h
 split at h
 ·cases h; (simp only []; omega)
 ·cases h
theorem aqf {t : List UInt8} {x : Tr} {j : Int} {e : Int × Int} (h : y8 t x j = .error e) : 0 < e.1 := by
 unfold y8 at h
 split at h
 ·rename_i hm; cases h; exact aqe hm
 ·split at h
  ·rename_i hc
   cases h
   unfold ade at hc
   split at hc
   ·split at hc
    ·cases hc
    ·exact aqe hc
   ·cases hc
  ·split at h
   ·split at h
    ·cases h; (simp only []; omega)
    ·cases h
   ·cases h; (simp only []; omega)
theorem RP.err {t : List UInt8} {x : Tr} {j : Int} {r : ad7} (h : RP t x j r) : ∀ e, r = .error e → 0 < e.1 := by
 induction h with
 | zero => intro e he; cases he
 | one _ _ _ ih => exact ih
 | brace _ _ _ _ ih => exact ih
 | braceE _ _ h3 => intro e he; cases he; exact aqf h3
theorem PR.err {t : List UInt8} {m : Md} {d : Nat} {i : Int} {r : ad7} (h : PR t m d i r) : ∀ e, r = .error e → 0 < e.1 := by
 induction h with
 | alt _ _ _ ih => exact ih
 | altE _ ih => intro e he; cases he; exact ih _ rfl
 | altL _ _ _ _ _ ih => exact ih
 | altLE _ _ _ ih => intro e he; cases he; exact ih _ rfl
 | altZ => intro e he; cases he
 | «meet» _ _ _ ih => exact ih
 | meetE _ ih => intro e he; cases he; exact ih _ rfl
 | meetL _ _ _ _ _ ih => exact ih
 | meetLE _ _ _ ih => intro e he; cases he; exact ih _ rfl
 | meetZ => intro e he; cases he
 | rowZ => intro e he; cases he
 | rowB => intro e he; cases he; show (0 : Int) < 20; decide
 | rowC _ _ _ _ _ ih => exact ih
 | rowCR _ _ _ h4 => intro e he; cases he; exact h4.err _ rfl
 | rowCE _ _ h3 hz => intro e he; cases he; exact anv h3 hz
 | rowN => intro e he; cases he; show (0 : Int) < 23; decide
 | rowP _ _ _ _ _ _ _ _ ih => exact ih
 | rowPR _ _ _ _ _ h6 => intro e he; cases he; exact h6.err _ rfl
 | rowPE _ _ _ _ ih => intro e he; cases he; exact ih _ rfl
 | rowO => intro e he; cases he; show (0 : Int) < 21; decide
def aqc (t : List UInt8) (R : Except (Int × Int) Tr) : Prop := ∃ q, PR t .alt 0 0 q ∧ match q with
 | .error e => R = .error e
 | .ok (x, k) => if k < t.length then R = .error (20, k) else R = .ok x
theorem aqc.total (t : List UInt8) : ∃ R, aqc t R := by
 obtain ⟨q, hq⟩ := an9 t (t.length + 1) 0 (by omega) (by omega) 0
 cases q with
 | error e => exact ⟨_, _, hq, rfl⟩
 | ok p =>
  obtain ⟨x, k⟩ := p
  by_cases hk : k < t.length
  ·exact ⟨.error (20, k), _, hq, by simp only [if_pos hk]⟩
  ·exact ⟨.ok x, _, hq, by simp only [if_neg hk]⟩
theorem aqc.det {t : List UInt8} {R R' : Except (Int × Int) Tr} (h : aqc t R) (h' : aqc t R') : R = R' := by
 obtain ⟨q, h1, h2⟩ := h
 obtain ⟨q', g1, g2⟩ := h'
 obtain rfl := h1.det g1
 cases q with
 | error e => rw [h2, g2]
 | ok p =>
  obtain ⟨x, k⟩ := p
  simp only at h2 g2
  split at h2
  ·rename_i hk; rw [if_pos hk] at g2; rw [h2, g2]
  ·rename_i hk; rw [if_neg hk] at g2; rw [h2, g2]
noncomputable def ae5 (t : List UInt8) : Except (Int × Int) Tr := Classical.choose (aqc.total t)
theorem ag7 (t : List UInt8) : aqc t (ae5 t) := Classical.choose_spec (aqc.total t)
theorem aiq {t : List UInt8} {R : Except (Int × Int) Tr} (h : aqc t R) : ae5 t = R := (ag7 t).det h
noncomputable def w6 (t : List UInt8) : Except (Int × Int) Tr :=
 if 1048576 < t.length then .error (1, 0) else match ae5 t with
  | .error e => .error e
  | .ok x => if 2000 < x.size then .error (24, 0) else .ok x
noncomputable def j9 (t : List UInt8) : Tr := match w6 t with
 | .ok x => x
 | .error _ => .none
noncomputable def m9 (t : List UInt8) : Int × Int := match w6 t with
 | .ok _ => (0, 0)
 | .error e => e
theorem ajm {t : List UInt8} {x : Tr} (h : w6 t = .ok x) : t.length ≤ 1048576 ∧ x.size ≤ 2000 ∧ x.solid ∧ PR t .alt 0 0 (.ok (x, t.length)) := by
 unfold w6 at h
 split at h
 ·cases h
 ·rename_i hl
  split at h
  ·cases h
  ·rename_i y hy
   split at h
   ·cases h
   ·rename_i hz
    obtain rfl : y = x := by injection h
    obtain ⟨q, q1, q2⟩ := hy ▸ ag7 t
    cases q with
    | error e => cases q2
    | ok p =>
     obtain ⟨z, k⟩ := p
     simp only at q2
     have hk := q1.ends (by omega) (by omega) _ _ rfl
     split at q2
     ·cases q2
     ·obtain rfl : y = z := by injection q2
      refine ⟨by omega, by omega, q1.solid trivial _ _ rfl, ?_⟩
      rw [show (t.length : Int) = k by omega]; exact q1
theorem as1 {t : List UInt8} {e : Int × Int} (h : w6 t = .error e) : 0 < e.1 := by
 unfold w6 at h
 split at h
 ·cases h; (simp only []; omega)
 ·split at h
  ·rename_i e' hy
   cases h
   obtain ⟨q, q1, q2⟩ := hy ▸ ag7 t
   cases q with
   | error e2 => cases q2; exact q1.err _ rfl
   | ok p =>
    obtain ⟨z, k⟩ := p
    simp only at q2
    split at q2
    ·cases q2; (simp only []; omega)
    ·cases q2
  ·split at h
   ·cases h; (simp only []; omega)
   ·cases h
theorem ajd {t : List UInt8} (h : (m9 t).1 = 0) : ∃ x, w6 t = .ok x ∧ j9 t = x := by
 unfold m9 at h
 unfold j9
 cases hp : w6 t with
 | ok x => exact ⟨x, rfl, rfl⟩
 | error e => rw [hp] at h; have := as1 hp; simp only at h; omega
theorem ao4 {t : List UInt8} {x : Tr} (h : w6 t = .ok x) : m9 t = (0, 0) ∧ j9 t = x := by
 unfold m9 j9; rw [h]; exact ⟨rfl, rfl⟩
end Go.Proofs.YtohnchdnkbadaaaDoor
namespace Go.Proofs.YtohnchdnkbadaaaDoor
open Go Go.RowKit
abbrev ND := Int × (Nat → Bool) × Int × Int × Int × Int
def ndZ : ND := (0, fun _ => false, 0, 0, 0, 0)
def ndC (d : ND) : List Value := [Value.int .i64 d.1] ++ arr 256 (fun j => Value.bool (d.2.1 j)) ++ [Value.int .i64 d.2.2.1, Value.int .i64 d.2.2.2.1, Value.int .i64 d.2.2.2.2.1, Value.int .i64 d.2.2.2.2.2]
theorem q8 (d : ND) : (ndC d).length = 261 := by simp [ndC, d9]
theorem am4 (d : ND) : (ndC d)[0]? = some (.int .i64 d.1) := rfl
theorem aiw (d : ND) (k : Nat) : (ndC d)[257 + k]? = ([Value.int .i64 d.2.2.1, Value.int .i64 d.2.2.2.1, Value.int .i64 d.2.2.2.2.1, Value.int .i64 d.2.2.2.2.2] : List Value)[k]? := by
 unfold ndC
 rw [List.getElem?_append_right (by simp [d9])]
 simp [d9]
theorem acl (d : ND) : (ndC d)[257]? = some (.int .i64 d.2.2.1) := aiw d 0
theorem ag3 (d : ND) : (ndC d)[258]? = some (.int .i64 d.2.2.2.1) := aiw d 1
theorem at8 (d : ND) : (ndC d)[259]? = some (.int .i64 d.2.2.2.2.1) := aiw d 2
theorem aie (d : ND) : (ndC d)[260]? = some (.int .i64 d.2.2.2.2.2) := aiw d 3
theorem at4 (d : ND) : ((ndC d).drop 1).take (arr 256 (fun j => Value.bool (d.2.1 j))).length = arr 256 (fun j => Value.bool (d.2.1 j)) := by
 rw [d9]
 show (arr 256 (fun j => Value.bool (d.2.1 j)) ++ _).take 256 = _
 exact List.take_left' (d9 _ _)
theorem afi (d : ND) : (ndC d).all (·.oneCell') = true := by
 unfold ndC
 rw [List.all_append, List.all_append]
 simp [arr, Value.oneCell']
theorem af8 {α : Type} (f : α → List Value) (x : α) : f x = [x].flatMap f := by simp
abbrev FR := Int × Int × Int × Int × Int × Int
def frC (f : FR) : List Value := [Value.int .i64 f.1, Value.int .i64 f.2.1, Value.int .i64 f.2.2.1, Value.int .u8 f.2.2.2.1, Value.int .i64 f.2.2.2.2.1, Value.int .i64 f.2.2.2.2.2]
theorem n6 (f : FR) : (frC f).length = 6 := rfl
def nd (n : List ND) (i : Int) : ND := n.getD i.toNat default
def amc (op : Int) (x y : Tr) : Tr := if op = 2 then .cat x y else if op = 3 then .alt x y else if op = 5 then .and x y else .minus x y
def aje (x : Tr) (m k : Int) : Tr := if m = -2 then aai x 1 (-1) else aai x m k
def ahq (m k : Int) : Prop := (m = -2 ∧ k = -1) ∨ (0 ≤ m ∧ m ≤ 255 ∧ -1 ≤ k ∧ k ≤ 255 ∧ (k < 0 ∨ m ≤ k))
inductive Den (n : List ND) : Int → Tr → Prop
 | eps {i : Int} : 0 ≤ i → i < n.length → (nd n i).1 = 0 → (∀ j, j < 256 → (nd n i).2.1 j = false) → Den n i .eps
 | cls {i : Int} {s : CS} : 0 ≤ i → i < n.length → (nd n i).1 = 1 → (∀ j, j < 256 → (nd n i).2.1 j = s.getLsbD j) → Den n i (.cls s)
 | bin {i op : Int} {x y : Tr} : 0 ≤ i → i < n.length → (nd n i).1 = op → op = 2 ∨ op = 3 ∨ op = 5 ∨ op = 6 → (nd n i).2.2.1 < i → (nd n i).2.2.2.1 < i → Den n (nd n i).2.2.1 x → Den n (nd n i).2.2.2.1 y → Den n i (amc op x y)
 | star {i : Int} {x : Tr} : 0 ≤ i → i < n.length → (nd n i).1 = 4 → (nd n i).2.2.1 < i → Den n (nd n i).2.2.1 x → Den n i (.star x)
 | rep {i : Int} {x : Tr} : 0 ≤ i → i < n.length → (nd n i).1 = 7 → (nd n i).2.2.1 < i → ahq (nd n i).2.2.2.2.1 (nd n i).2.2.2.2.2 → Den n (nd n i).2.2.1 x → Den n i (aje x (nd n i).2.2.2.2.1 (nd n i).2.2.2.2.2)
theorem Den.lt {n : List ND} {i : Int} {x : Tr} (h : Den n i x) : 0 ≤ i ∧ i < n.length := by cases h <;> exact ⟨by assumption, by assumption⟩
theorem aeh {n : List ND} (l : List ND) {i : Int} (h0 : 0 ≤ i) (h : i < n.length) : nd (n ++ l) i = nd n i := by
 unfold nd
 rw [List.getD_eq_getElem?_getD, List.getD_eq_getElem?_getD, List.getElem?_append_left (by omega)]
theorem aef (n : List ND) (d : ND) : nd (n ++ [d]) n.length = d := by
 unfold nd; simp [List.getD_eq_getElem?_getD]
theorem Den.more {n : List ND} (l : List ND) {i : Int} {x : Tr} (h : Den n i x) : Den (n ++ l) i x := by
 induction h with
 | eps h0 h1 h2 h3 => exact .eps h0 (by simp; omega) (by rw [aeh l h0 h1]; exact h2) (by rw [aeh l h0 h1]; exact h3)
 | cls h0 h1 h2 h3 => exact .cls h0 (by simp; omega) (by rw [aeh l h0 h1]; exact h2) (by rw [aeh l h0 h1]; exact h3)
 | bin h0 h1 h2 h3 h4 h5 _ _ ih1 ih2 => have e := aeh l h0 h1; exact .bin h0 (by simp; omega) (by rw [e]; exact h2) h3 (by rw [e]; exact h4) (by rw [e]; exact h5) (by rw [e]; exact ih1) (by rw [e]; exact ih2)
 | star h0 h1 h2 h3 _ ih => have e := aeh l h0 h1; exact .star h0 (by simp; omega) (by rw [e]; exact h2) (by rw [e]; exact h3) (by rw [e]; exact ih)
 | rep h0 h1 h2 h3 h4 _ ih => have e := aeh l h0 h1; rw [← e]; exact .rep h0 (by simp; omega) (by rw [e]; exact h2) (by rw [e]; exact h3) (by rw [e]; exact h4) (by rw [e]; exact ih)
theorem apl (n : List ND) : Den (n ++ [(0, fun _ => false, 0, 0, 0, 0)]) n.length .eps := .eps (by omega) (by simp; omega) (by rw [aef]) (by rw [aef]; exact fun _ _ => rfl)
theorem aug (n : List ND) {f : Nat → Bool} {s : CS} (h : ∀ j, j < 256 → f j = s.getLsbD j) : Den (n ++ [(1, f, 0, 0, 0, 0)]) n.length (.cls s) := .cls (by omega) (by simp; omega) (by rw [aef]) (by rw [aef]; exact h)
theorem ak7 {n : List ND} {op a b : Int} {x y : Tr} (ho : op = 2 ∨ op = 3 ∨ op = 5 ∨ op = 6) (hx : Den n a x) (hy : Den n b y) : Den (n ++ [(op, fun _ => false, a, b, 0, 0)]) n.length (amc op x y) := by
 have e := aef n (op, fun _ => false, a, b, 0, 0)
 exact .bin (by omega) (by simp; omega) (by rw [e]) ho (by rw [e]; exact hx.lt.2) (by rw [e]; exact hy.lt.2) (by rw [e]; exact hx.more _) (by rw [e]; exact hy.more _)
theorem ay7 {n : List ND} {a m k : Int} {x : Tr} (hb : ahq m k) (hx : Den n a x) : Den (n ++ [(7, fun _ => false, a, 0, m, k)]) n.length (aje x m k) := by
 have e := aef n (7, fun _ => false, a, 0, m, k)
 have := Den.rep (n := n ++ [(7, fun _ => false, a, 0, m, k)]) (i := n.length) (x := x) (by omega) (by simp; omega) (by rw [e]) (by rw [e]; exact hx.lt.2) (by rw [e]; exact hb) (by rw [e]; exact hx.more _)
 rw [e] at this; exact this
def NOK (n : List ND) : Prop := ∀ i : Int, 0 ≤ i → i < n.length → (nd n i).1 ≠ 4 ∧ ∃ x, Den n i x
theorem NOK.snoc {n : List ND} {d : ND} {x : Tr} (h : NOK n) (hx : Den (n ++ [d]) n.length x) (h4 : d.1 ≠ 4 := by first | decide | (simp only []; omega)) : NOK (n ++ [d]) := fun i h0 h1 => by
 by_cases hi : i < n.length
 ·obtain ⟨y0, y, hy⟩ := h i h0 hi; exact ⟨by rw [aeh _ h0 hi]; exact y0, y, hy.more _⟩
 ·have : i = n.length := by simp at h1; omega
  rw [this]; exact ⟨by rw [aef]; exact h4, x, hx⟩
theorem aeu (op : Int) (x y : Tr) : (amc op x y).size = 1 + x.size + y.size := by
 unfold amc
 split
 ·rfl
 ·split
  ·rfl
  ·split <;> rfl
theorem Den.det {n : List ND} {i : Int} {x : Tr} (h : Den n i x) : ∀ {y : Tr}, Den n i y → x = y := by
 induction h with
 | eps _ _ h2 =>
  intro y h'
  cases h' with
  | eps => rfl
  | cls _ _ g2 => omega
  | bin _ _ g2 g3 => omega
  | star _ _ g2 => omega
  | rep _ _ g2 => omega
 | cls _ _ h2 h3 =>
  intro y h'
  cases h' with
  | eps _ _ g2 => omega
  | cls _ _ _ g3 =>
   congr 1
   apply BitVec.eq_of_getLsbD_eq
   intro j hj
   rw [← h3 j hj, g3 j hj]
  | bin _ _ g2 g3 => omega
  | star _ _ g2 => omega
  | rep _ _ g2 => omega
 | bin _ _ h2 h3 _ _ _ _ ih1 ih2 =>
  intro y h'
  cases h' with
  | eps _ _ g2 => omega
  | cls _ _ g2 => omega
  | bin _ _ g2 _ _ _ g6 g7 => rw [ih1 g6, ih2 g7, ← h2, ← g2]
  | star _ _ g2 => omega
  | rep _ _ g2 => omega
 | star _ _ h2 _ _ ih =>
  intro y h'
  cases h' with
  | eps _ _ g2 => omega
  | cls _ _ g2 => omega
  | bin _ _ g2 g3 => omega
  | star _ _ _ _ g4 => rw [ih g4]
  | rep _ _ g2 => omega
 | rep _ _ h2 _ _ _ ih =>
  intro y h'
  cases h' with
  | eps _ _ g2 => omega
  | cls _ _ g2 => omega
  | bin _ _ g2 g3 => omega
  | star _ _ g2 => omega
  | rep _ _ _ _ _ g5 => rw [ih g5]
def IxR (n : List ND) (i : Int) : Option Tr → Prop
 | none => i = -1
 | some x => Den n i x
theorem IxR.more {n : List ND} (l : List ND) {i : Int} {o : Option Tr} (h : IxR n i o) : IxR (n ++ l) i o := by
 cases o with
 | none => exact h
 | some x => exact Den.more l h
theorem IxR.neg {n : List ND} {i : Int} {o : Option Tr} (h : IxR n i o) (hi : i < 0) : o = none ∧ i = -1 := by
 cases o with
 | none => exact ⟨rfl, h⟩
 | some x => have := Den.lt h; omega
theorem IxR.pos {n : List ND} {i : Int} {o : Option Tr} (h : IxR n i o) (hi : ¬ i < 0) : ∃ x, o = some x ∧ Den n i x := by
 cases o with
 | none => have : i = -1 := h; omega
 | some x => exact ⟨x, rfl, h⟩
def FrR (n : List ND) (f : FR) (a : AF) : Prop := f.1 = a.place ∧ IxR n f.2.1 a.alt ∧ IxR n f.2.2.1 a.meet ∧ f.2.2.2.1 = a.sign ∧ IxR n f.2.2.2.2.1 a.row ∧ IxR n f.2.2.2.2.2 a.fac
theorem FrR.more {n : List ND} (l : List ND) {f : FR} {a : AF} (h : FrR n f a) : FrR (n ++ l) f a := ⟨h.1, h.2.1.more l, h.2.2.1.more l, h.2.2.2.1, h.2.2.2.2.1.more l, h.2.2.2.2.2.more l⟩
def ak2 (n : List ND) : List FR → List AF → Prop
 | [], [] => True
 | f :: fs, a :: cs => FrR n f a ∧ ak2 n fs cs
 | _, _ => False
theorem ak2.more {n : List ND} (l : List ND) : ∀ {fs : List FR} {cs : List AF}, ak2 n fs cs → ak2 (n ++ l) fs cs
 | [], [], _ => trivial
 | _ :: _, _ :: _, h => ⟨h.1.more l, h.2.more l⟩
 | [], _ :: _, h => h.elim
 | _ :: _, [], h => h.elim
def y6 (n : List ND) (s : List FR) (cs : List AF) : Prop := ak2 n s.reverse cs
theorem y6.snoc {n : List ND} {pre : List FR} {f : FR} {a : AF} {rest : List AF} : y6 n (pre ++ [f]) (a :: rest) ↔ FrR n f a ∧ y6 n pre rest := by
 unfold y6; rw [List.reverse_append]; exact Iff.rfl
theorem y6.len {n : List ND} : ∀ {fs : List FR} {cs : List AF}, ak2 n fs cs → fs.length = cs.length
 | [], [], _ => rfl
 | _ :: _, _ :: _, h => by simp [y6.len h.2]
 | [], _ :: _, h => h.elim
 | _ :: _, [], h => h.elim
theorem abr {α : Type} {s : List α} (h : 0 < s.length) : ∃ pre f, s = pre ++ [f] := by
 cases hr : s.reverse with
 | nil => have := congrArg List.length hr; simp at this; subst this; simp at h
 | cons a r => exact ⟨r.reverse, a, by rw [← List.reverse_reverse s, hr]; simp⟩
theorem afh {α : Type} (pre : List α) (f : α) : ((((pre ++ [f]).length : Int) - 1)).toNat = pre.length := by simp
theorem aat {α : Type} [Inhabited α] (pre : List α) (f : α) : (pre ++ [f]).getD pre.length default = f := by simp [List.getD_eq_getElem?_getD]
theorem abb {α : Type} (pre : List α) (f g : α) : (pre ++ [f]).set pre.length g = pre ++ [g] := by simp
end Go.Proofs.YtohnchdnkbadaaaDoor
