/-
  Merged: RxV, TiedR, Gwu, Gwp, Gwq, MbD, RxT.
-/
import Derived.Test.YtffhedoahdgniaaDoorRows
import Derived.Test.YtffhedoahdgniaaDoorCards
import Derived.Test.YtffhedoahdgniaaDoorTie
import Derived.Laws.Cover3
import Derived.Test.YtffhedoahdgniaaDoorPt3
set_option maxRecDepth 100000
namespace Go.Proofs.YtffhedoahdgniaaDoor
open Go Go.RowKit
theorem aig : Program.concrete Tryd.prog 83 = true := by kernel_rfl
theorem ae0 : m5 Tryd.prog 89 0 = some 0 := by kernel_rfl
theorem m4 : aaj Tryd.prog 23 = true := by kernel_rfl
theorem abg : r8 Tryd.prog 101 = true := by kernel_rfl
theorem ae5 : m5 Tryd.prog 89 1 = some 1 := by kernel_rfl
theorem aeu : m5 Tryd.prog 86 0 = some 0 := by kernel_rfl
theorem ae6 : m5 Tryd.prog 86 1 = some 1 := by kernel_rfl
theorem aey : m5 Tryd.prog 87 0 = some 0 := by kernel_rfl
theorem aew : m5 Tryd.prog 87 1 = some 1 := by kernel_rfl
theorem ae2 : m5 Tryd.prog 88 0 = some 0 := by kernel_rfl
theorem ae1 : m5 Tryd.prog 88 1 = some 1 := by kernel_rfl
theorem aca : aff Tryd.prog 89 = true := by kernel_rfl
theorem adf : agk Tryd.prog 89 = some (Value.agg [Tr.val Tr.none, Tr.val Tr.none].toArray) := by kernel_rfl
theorem aa5 : aff Tryd.prog 86 = true := by kernel_rfl
theorem ab9 : agk Tryd.prog 86 = some (Value.agg [Tr.val Tr.none, Tr.val Tr.none].toArray) := by kernel_rfl
theorem ab8 : aff Tryd.prog 87 = true := by kernel_rfl
theorem adn : agk Tryd.prog 87 = some (Value.agg [Tr.val Tr.none, Tr.val Tr.none].toArray) := by kernel_rfl
theorem adg : aff Tryd.prog 88 = true := by kernel_rfl
theorem afk : agk Tryd.prog 88 = some (Value.agg [Tr.val Tr.none, Tr.val Tr.none].toArray) := by kernel_rfl
theorem ag2 : aff Tryd.prog 91 = true := by kernel_rfl
theorem aoe : agk Tryd.prog 91 = some (Value.agg [Tr.val Tr.none].toArray) := by kernel_rfl
theorem amx : abz Tryd.prog 89 = some [Tr.val Tr.none, Tr.val Tr.none] := by kernel_rfl
theorem am0 : s7 Tryd.prog 89 2 = true := by kernel_rfl
theorem aaw : r8 Tryd.prog 23 = true := by kernel_rfl
theorem amk : Program.concrete Tryd.prog 89 = true := by kernel_rfl
theorem al9 : abz Tryd.prog 86 = some [Tr.val Tr.none, Tr.val Tr.none] := by kernel_rfl
theorem anu : s7 Tryd.prog 86 2 = true := by kernel_rfl
theorem an6 : Program.concrete Tryd.prog 86 = true := by kernel_rfl
theorem ane : abz Tryd.prog 91 = some [Tr.val Tr.none] := by kernel_rfl
theorem am3 : s7 Tryd.prog 91 1 = true := by kernel_rfl
theorem ahu : m5 Tryd.prog 91 0 = some 0 := by kernel_rfl
theorem al1 : Program.concrete Tryd.prog 91 = true := by kernel_rfl
theorem amo : abz Tryd.prog 87 = some [Tr.val Tr.none, Tr.val Tr.none] := by kernel_rfl
theorem am1 : s7 Tryd.prog 87 2 = true := by kernel_rfl
theorem anv : Program.concrete Tryd.prog 87 = true := by kernel_rfl
theorem amh : abz Tryd.prog 88 = some [Tr.val Tr.none, Tr.val Tr.none] := by kernel_rfl
theorem anj : s7 Tryd.prog 88 2 = true := by kernel_rfl
theorem amu : Program.concrete Tryd.prog 88 = true := by kernel_rfl
theorem adk : aff Tryd.prog 78 = true := by kernel_rfl
theorem aeg : agk Tryd.prog 78 = some (Value.agg [].toArray) := by kernel_rfl
theorem ad9 : aff Tryd.prog 83 = true := by kernel_rfl
theorem afa : agk Tryd.prog 83 = some (Value.agg (wl cs0).toArray) := by kernel_rfl
theorem at1 : abz Tryd.prog 78 = some [] := by kernel_rfl
theorem aur : s7 Tryd.prog 78 0 = true := by kernel_rfl
theorem ata : abz Tryd.prog 83 = some (wl cs0) := by kernel_rfl
theorem atl : s7 Tryd.prog 83 4 = true := by kernel_rfl
theorem aop : m5 Tryd.prog 83 0 = some 0 := by kernel_rfl
theorem av4 : r8 Tryd.prog 30 = true := by kernel_rfl
theorem aba : r8 Tryd.prog 13 = true := by kernel_rfl
theorem d5.ofPureE {f : FuncId} {vs : List Value} {v : Value} (te : TypeId) (fre : Nat × Nat) (h : aks f vs.toArray v) : d5 Tryd.prog f vs (z8 te fre) [] (Ret v []) := fun w M hO hn _ hr => by
 have : M = [] := hO
 subst this
 refine (h w ⟨te, fre, (hr (0, .cells adl te fre) (List.mem_singleton.2 rfl)).1⟩).mono ?_
 rintro en w' ⟨rfl, hb⟩
 exact ⟨[], .inl ⟨v, rfl, rfl⟩, (Hp.start 0 [] w (H := []) rfl hn (fun k hk => by cases hk) hr).below hb⟩
def ap1 (n : Tr) (K : Tr → Prop) : Prop :=
 (if n.isNone = true then
  K (.cls cs0)
 else
  K n)
theorem a0u  (n : Tr) (K : Tr → Prop) (h : ap1 n K) :
  d5 Tryd.prog 101 [Tr.val n] [] [] (fun o => (∃ (v : Tr), K v ∧ o = .ret (Tr.val v) []) ∨ (False)) := by
 unfold ap1 at h
 refine c8 (n := 8) (L0 := [(0, Tr.val n)]) Tryd.func101 rfl rfl rfl rfl (fun w0 M Q hE => ?_)
 refine a6 (fun _ hK => ?_)
 refine a4 ?_
 refine wa ?_
 refine WL.nil ?_
 refine kg (hK [(0, Tr.val n)] _ ?_)
 refine a6 (fun _ hK_1' => ?_)
 refine a6 (fun _ hK_2' => ?_)
 refine a4 ?_
 refine wm ?_
 refine wv (OV.eqlTr rfl Tryd.underlying23) ?_
 refine WL.nil ?_
 refine kg (hK_2' [(0, Tr.val n), (4, zB n.isNone)] _ ?_)
 refine b6 (b := n.isNone) rfl (fun hb => ?_) (fun hb => ?_)
 ·replace h := j4 h hb
  refine a6 (fun _ hK_3' => ?_)
  refine a4 ?_
  refine wv (OV.build rfl (cs := wl cs0) rfl) ?_
  refine wv (OV.cast (OV.iface rfl aig) (v' := Tr.val (.cls cs0)) rfl) ?_
  refine wa ?_
  refine WL.nil ?_
  refine kg (hK_3' [(2, Tr.val (.cls cs0))] _ ?_)
  refine c9 ?_
  exact hE.ret [] rfl rfl (.inl ⟨_, h, rfl⟩) (f9.of1 rfl (RV.tmp rfl))
 ·replace h := j5 h hb
  refine b7 ?_
  refine kg (hK_1' [(0, Tr.val n)] _ ?_)
  refine a6 (fun _ hK_4' => ?_)
  refine a4 ?_
  refine wm ?_
  refine wa ?_
  refine WL.nil ?_
  refine kg (hK_4' [(2, Tr.val n)] _ ?_)
  refine c9 ?_
  exact hE.ret [] rfl rfl (.inl ⟨_, h, rfl⟩) (f9.of1 rfl (RV.tmp rfl))
theorem Tr.val_one (x : Tr) : x.val.oneCell' = true := by cases x <;> rfl
theorem Tr.val_cells (x : Tr) : x.val.cells = [x.val].toArray := aha x.val_one
theorem acn (x : Tr) : d5 Tryd.prog 101 [x.val] [] [] (Ret x.sure.val []) :=
 d5.one (a0u x (fun v => v = x.sure) (by unfold ap1; cases x <;> simp [Tr.isNone, Tr.sure]))
def ago : Tr → Int
 | .alt _ _ => 0
 | .and _ _ | .minus _ _ => 1
 | .cat _ _ => 2
 | .star _ => 3
 | _ => 4
def agc (x : Tr) (n : Int) (s : List UInt8) : List UInt8 := if ago x < n then [40] ++ s ++ [41] else s
def v6 : Tr → List UInt8
 | .none => [91, 93]
 | .eps => [40, 41]
 | .cls s => aaf s
 | .alt a b => (agc a 0 (v6 a) ++ [124]) ++ agc b 1 (v6 b)
 | .and a b => (agc a 1 (v6 a) ++ [38]) ++ agc b 2 (v6 b)
 | .minus a b => (agc a 1 (v6 a) ++ [45]) ++ agc b 2 (v6 b)
 | .cat a b => agc a 2 (v6 a) ++ agc b 3 (v6 b)
 | .star a => agc a 3 (v6 a) ++ [42]
def a7 (x : Tr) (n : Int) : List UInt8 := agc x n (v6 x)
theorem aei (x : Tr) (n : Int) (s : List UInt8) : (agc x n s).length ≤ s.length + 2 := by
 unfold agc; split <;> simp
def anx  (K : Bool → Prop) : Prop :=
 K true
theorem atj   (K : Bool → Prop) (h : anx  K) :
  d5 Tryd.prog 95 [Value.agg [].toArray] [] [] (fun o => (∃ (v : Bool), K v ∧ o = .ret (zB v) []) ∨ (False)) := by
 unfold anx at h
 refine c8 (n := 3) (L0 := [(0, Value.agg [].toArray)]) Tryd.func95 rfl rfl rfl rfl (fun w0 M Q hE => ?_)
 refine a6 (fun _ hK => ?_)
 refine a4 ?_
 refine WL.make (MV.box (cs := []) rfl rfl) rfl rfl rfl (fun b => ?_)
 refine wa ?_
 refine WL.nil ?_
 refine KX.go (hK [] _ ?_) trivial
 refine a6 (fun _ hK_1' => ?_)
 refine a4 ?_
 refine wa ?_
 refine WL.nil ?_
 refine kg (hK_1' [(2, zB true)] _ ?_)
 refine c9 ?_
 exact hE.ret [] rfl rfl (.inl ⟨_, h, rfl⟩) (f9.of1 rfl (RV.tmp rfl))
def aoa (_ : CS) (K : Bool → Prop) : Prop :=
 K false
theorem aun  (a0 : CS) (K : Bool → Prop) (h : aoa a0 K) :
  d5 Tryd.prog 97 [Value.agg (wl a0).toArray] [] [] (fun o => (∃ (v : Bool), K v ∧ o = .ret (zB v) []) ∨ (False)) := by
 unfold aoa at h
 refine c8 (n := 3) (L0 := [(0, Value.agg (wl a0).toArray)]) Tryd.func97 rfl rfl rfl rfl (fun w0 M Q hE => ?_)
 refine a6 (fun _ hK => ?_)
 refine a4 ?_
 refine WL.make (MV.box (cs := wl a0) rfl rfl) rfl rfl rfl (fun b => ?_)
 refine wa ?_
 refine WL.nil ?_
 refine KX.go (hK [] _ ?_) trivial
 refine a6 (fun _ hK_1' => ?_)
 refine a4 ?_
 refine wa ?_
 refine WL.nil ?_
 refine kg (hK_1' [(2, zB false)] _ ?_)
 refine c9 ?_
 exact hE.ret [] rfl rfl (.inl ⟨_, h, rfl⟩) (f9.of1 rfl (RV.tmp rfl))
def amm (n_0 : Tr) (n_1 : Tr) (K : Bool → Prop) : Prop :=
 (aes Tryd.prog (Tr.val n_0.sure) "Nullable" [] (zB n_0.sure.null)) ∧
 (n_0.sure.null = true → (aes Tryd.prog (Tr.val n_1.sure) "Nullable" [] (zB n_1.sure.null))) ∧
 K (n_0.sure.null && n_1.sure.null)
theorem ath  (n_0 : Tr) (n_1 : Tr) (K : Bool → Prop) (h : amm n_0 n_1 K) :
  d5 Tryd.prog 106 [Value.agg [Tr.val n_0, Tr.val n_1].toArray] [] [] (fun o => (∃ (v : Bool), K v ∧ o = .ret (zB v) []) ∨ (False)) := by
 unfold amm at h
 refine c8 (n := 13) (L0 := [(0, Value.agg [Tr.val n_0, Tr.val n_1].toArray)]) Tryd.func106 rfl rfl rfl rfl (fun w0 M Q hE => ?_)
 refine a6 (fun _ hK => ?_)
 refine a4 ?_
 refine WL.make (MV.box (cs := [Tr.val n_0, Tr.val n_1]) rfl rfl) rfl rfl rfl (fun b => ?_)
 refine wa ?_
 refine WL.nil ?_
 refine kg (hK [(1, zP b)] _ ?_)
 refine a6 (fun _ hK_1' => ?_)
 refine a4 ?_
 refine wv (OV.fieldAddr0 rfl ae0) ?_
 refine wv (OV.load rfl (At.own 0 rfl) rfl m4) ?_
 refine WL.call (A := []) abg rfl (acn n_0) rfl trivial rfl rfl ?_
 obtain ⟨o, h⟩ := h
 refine WL.cv (CV.meth rfl o rfl) rfl rfl rfl ?_
 refine wm ?_
 obtain ⟨o_2', h⟩ := h
 refine WL.cut 5 [(12, zB (n_0.sure.null && n_1.sure.null))] ?_ (fun K0_2' hK_2' => ?_)
 rotate_left
 ·refine WL.split (n_0.sure.null) (fun hb => ?_) (fun hb => ?_)
  ·have o_1' := o_2' hb
   refine WL.set 7 rfl (congrArg zB hb) ?_
   refine wv (OV.fieldAddr0 rfl ae5) ?_
   refine wv (OV.load rfl (At.own 0 rfl) rfl m4) ?_
   refine WL.call (A := []) abg rfl (acn n_1) rfl trivial rfl rfl ?_
   refine WL.cv (CV.meth rfl o_1' rfl) rfl rfl rfl ?_
   refine wv (OV.pickT rfl rfl) ?_
   refine WL.set 12 rfl (bT (v := n_1.sure.null) hb) ?_
   exact WL.end_ (kg hK_2')
  ·refine WL.set 7 rfl (congrArg zB hb) ?_
   refine wk ?_
   refine wk ?_
   refine wk ?_
   refine wk ?_
   refine wv (OV.pickF rfl rfl) ?_
   refine WL.set 12 rfl (bF (v := n_1.sure.null) hb) ?_
   exact WL.end_ (kg hK_2')
 refine wa ?_
 refine WL.nil ?_
 refine kg (hK_1' [(2, zB (n_0.sure.null && n_1.sure.null))] _ ?_)
 refine c9 ?_
 exact hE.ret [] rfl rfl (.inl ⟨_, h, rfl⟩) (f9.of1 rfl (RV.tmp rfl))
def am2 (n_0 : Tr) (n_1 : Tr) (K : Bool → Prop) : Prop :=
 (aes Tryd.prog (Tr.val n_0.sure) "Nullable" [] (zB n_0.sure.null)) ∧
 (n_0.sure.null = false → (aes Tryd.prog (Tr.val n_1.sure) "Nullable" [] (zB n_1.sure.null))) ∧
 K (n_0.sure.null || n_1.sure.null)
theorem atn  (n_0 : Tr) (n_1 : Tr) (K : Bool → Prop) (h : am2 n_0 n_1 K) :
  d5 Tryd.prog 99 [Value.agg [Tr.val n_0, Tr.val n_1].toArray] [] [] (fun o => (∃ (v : Bool), K v ∧ o = .ret (zB v) []) ∨ (False)) := by
 unfold am2 at h
 refine c8 (n := 13) (L0 := [(0, Value.agg [Tr.val n_0, Tr.val n_1].toArray)]) Tryd.func99 rfl rfl rfl rfl (fun w0 M Q hE => ?_)
 refine a6 (fun _ hK => ?_)
 refine a4 ?_
 refine WL.make (MV.box (cs := [Tr.val n_0, Tr.val n_1]) rfl rfl) rfl rfl rfl (fun b => ?_)
 refine wa ?_
 refine WL.nil ?_
 refine kg (hK [(1, zP b)] _ ?_)
 refine a6 (fun _ hK_1' => ?_)
 refine a4 ?_
 refine wv (OV.fieldAddr0 rfl aeu) ?_
 refine wv (OV.load rfl (At.own 0 rfl) rfl m4) ?_
 refine WL.call (A := []) abg rfl (acn n_0) rfl trivial rfl rfl ?_
 obtain ⟨o, h⟩ := h
 refine WL.cv (CV.meth rfl o rfl) rfl rfl rfl ?_
 refine wm ?_
 obtain ⟨o_2', h⟩ := h
 refine WL.cut 5 [(12, zB (n_0.sure.null || n_1.sure.null))] ?_ (fun K0_2' hK_2' => ?_)
 rotate_left
 ·refine WL.split (n_0.sure.null) (fun hb => ?_) (fun hb => ?_)
  ·refine WL.set 7 rfl (congrArg zB hb) ?_
   refine wk ?_
   refine wk ?_
   refine wk ?_
   refine wk ?_
   refine wv (OV.pickT rfl rfl) ?_
   refine WL.set 12 rfl (oT (v := n_1.sure.null) hb) ?_
   exact WL.end_ (kg hK_2')
  ·have o_1' := o_2' hb
   refine WL.set 7 rfl (congrArg zB hb) ?_
   refine wv (OV.fieldAddr0 rfl ae6) ?_
   refine wv (OV.load rfl (At.own 0 rfl) rfl m4) ?_
   refine WL.call (A := []) abg rfl (acn n_1) rfl trivial rfl rfl ?_
   refine WL.cv (CV.meth rfl o_1' rfl) rfl rfl rfl ?_
   refine wv (OV.pickF rfl rfl) ?_
   refine WL.set 12 rfl (oF (v := n_1.sure.null) hb) ?_
   exact WL.end_ (kg hK_2')
 refine wa ?_
 refine WL.nil ?_
 refine kg (hK_1' [(2, zB (n_0.sure.null || n_1.sure.null))] _ ?_)
 refine c9 ?_
 exact hE.ret [] rfl rfl (.inl ⟨_, h, rfl⟩) (f9.of1 rfl (RV.tmp rfl))
def aky (_ : Tr) (K : Bool → Prop) : Prop :=
 K true
theorem ar8  (a0_0 : Tr) (K : Bool → Prop) (h : aky a0_0 K) :
  d5 Tryd.prog 108 [Value.agg [Tr.val a0_0].toArray] [] [] (fun o => (∃ (v : Bool), K v ∧ o = .ret (zB v) []) ∨ (False)) := by
 unfold aky at h
 refine c8 (n := 3) (L0 := [(0, Value.agg [Tr.val a0_0].toArray)]) Tryd.func108 rfl rfl rfl rfl (fun w0 M Q hE => ?_)
 refine a6 (fun _ hK => ?_)
 refine a4 ?_
 refine WL.make (MV.box (cs := [Tr.val a0_0]) rfl rfl) rfl rfl rfl (fun b => ?_)
 refine wa ?_
 refine WL.nil ?_
 refine KX.go (hK [] _ ?_) trivial
 refine a6 (fun _ hK_1' => ?_)
 refine a4 ?_
 refine wa ?_
 refine WL.nil ?_
 refine kg (hK_1' [(2, zB true)] _ ?_)
 refine c9 ?_
 exact hE.ret [] rfl rfl (.inl ⟨_, h, rfl⟩) (f9.of1 rfl (RV.tmp rfl))
def ami (n_0 : Tr) (n_1 : Tr) (K : Bool → Prop) : Prop :=
 (aes Tryd.prog (Tr.val n_0.sure) "Nullable" [] (zB n_0.sure.null)) ∧
 (n_0.sure.null = true → (aes Tryd.prog (Tr.val n_1.sure) "Nullable" [] (zB n_1.sure.null))) ∧
 K (n_0.sure.null && n_1.sure.null)
theorem auo  (n_0 : Tr) (n_1 : Tr) (K : Bool → Prop) (h : ami n_0 n_1 K) :
  d5 Tryd.prog 102 [Value.agg [Tr.val n_0, Tr.val n_1].toArray] [] [] (fun o => (∃ (v : Bool), K v ∧ o = .ret (zB v) []) ∨ (False)) := by
 unfold ami at h
 refine c8 (n := 13) (L0 := [(0, Value.agg [Tr.val n_0, Tr.val n_1].toArray)]) Tryd.func102 rfl rfl rfl rfl (fun w0 M Q hE => ?_)
 refine a6 (fun _ hK => ?_)
 refine a4 ?_
 refine WL.make (MV.box (cs := [Tr.val n_0, Tr.val n_1]) rfl rfl) rfl rfl rfl (fun b => ?_)
 refine wa ?_
 refine WL.nil ?_
 refine kg (hK [(1, zP b)] _ ?_)
 refine a6 (fun _ hK_1' => ?_)
 refine a4 ?_
 refine wv (OV.fieldAddr0 rfl aey) ?_
 refine wv (OV.load rfl (At.own 0 rfl) rfl m4) ?_
 refine WL.call (A := []) abg rfl (acn n_0) rfl trivial rfl rfl ?_
 obtain ⟨o, h⟩ := h
 refine WL.cv (CV.meth rfl o rfl) rfl rfl rfl ?_
 refine wm ?_
 obtain ⟨o_2', h⟩ := h
 refine WL.cut 5 [(12, zB (n_0.sure.null && n_1.sure.null))] ?_ (fun K0_2' hK_2' => ?_)
 rotate_left
 ·refine WL.split (n_0.sure.null) (fun hb => ?_) (fun hb => ?_)
  ·have o_1' := o_2' hb
   refine WL.set 7 rfl (congrArg zB hb) ?_
   refine wv (OV.fieldAddr0 rfl aew) ?_
   refine wv (OV.load rfl (At.own 0 rfl) rfl m4) ?_
   refine WL.call (A := []) abg rfl (acn n_1) rfl trivial rfl rfl ?_
   refine WL.cv (CV.meth rfl o_1' rfl) rfl rfl rfl ?_
   refine wv (OV.pickT rfl rfl) ?_
   refine WL.set 12 rfl (bT (v := n_1.sure.null) hb) ?_
   exact WL.end_ (kg hK_2')
  ·refine WL.set 7 rfl (congrArg zB hb) ?_
   refine wk ?_
   refine wk ?_
   refine wk ?_
   refine wk ?_
   refine wv (OV.pickF rfl rfl) ?_
   refine WL.set 12 rfl (bF (v := n_1.sure.null) hb) ?_
   exact WL.end_ (kg hK_2')
 refine wa ?_
 refine WL.nil ?_
 refine kg (hK_1' [(2, zB (n_0.sure.null && n_1.sure.null))] _ ?_)
 refine c9 ?_
 exact hE.ret [] rfl rfl (.inl ⟨_, h, rfl⟩) (f9.of1 rfl (RV.tmp rfl))
def ajc (n_0 : Tr) (n_1 : Tr) (K : Bool → Prop) : Prop :=
 (aes Tryd.prog (Tr.val n_0.sure) "Nullable" [] (zB n_0.sure.null)) ∧
 (n_0.sure.null = true → (aes Tryd.prog (Tr.val n_1.sure) "Nullable" [] (zB n_1.sure.null))) ∧
 K (n_0.sure.null && (!n_1.sure.null))
theorem aqw  (n_0 : Tr) (n_1 : Tr) (K : Bool → Prop) (h : ajc n_0 n_1 K) :
  d5 Tryd.prog 104 [Value.agg [Tr.val n_0, Tr.val n_1].toArray] [] [] (fun o => (∃ (v : Bool), K v ∧ o = .ret (zB v) []) ∨ (False)) := by
 unfold ajc at h
 refine c8 (n := 14) (L0 := [(0, Value.agg [Tr.val n_0, Tr.val n_1].toArray)]) Tryd.func104 rfl rfl rfl rfl (fun w0 M Q hE => ?_)
 refine a6 (fun _ hK => ?_)
 refine a4 ?_
 refine WL.make (MV.box (cs := [Tr.val n_0, Tr.val n_1]) rfl rfl) rfl rfl rfl (fun b => ?_)
 refine wa ?_
 refine WL.nil ?_
 refine kg (hK [(1, zP b)] _ ?_)
 refine a6 (fun _ hK_1' => ?_)
 refine a4 ?_
 refine wv (OV.fieldAddr0 rfl ae2) ?_
 refine wv (OV.load rfl (At.own 0 rfl) rfl m4) ?_
 refine WL.call (A := []) abg rfl (acn n_0) rfl trivial rfl rfl ?_
 obtain ⟨o, h⟩ := h
 refine WL.cv (CV.meth rfl o rfl) rfl rfl rfl ?_
 refine wm ?_
 obtain ⟨o_2', h⟩ := h
 refine WL.cut 6 [(13, zB (n_0.sure.null && (!n_1.sure.null)))] ?_ (fun K0_2' hK_2' => ?_)
 rotate_left
 ·refine WL.split (n_0.sure.null) (fun hb => ?_) (fun hb => ?_)
  ·have o_1' := o_2' hb
   refine WL.set 7 rfl (congrArg zB hb) ?_
   refine wv (OV.fieldAddr0 rfl ae1) ?_
   refine wv (OV.load rfl (At.own 0 rfl) rfl m4) ?_
   refine WL.call (A := []) abg rfl (acn n_1) rfl trivial rfl rfl ?_
   refine WL.cv (CV.meth rfl o_1' rfl) rfl rfl rfl ?_
   refine wv (OV.not rfl) ?_
   refine wv (OV.pickT rfl rfl) ?_
   refine WL.set 13 rfl (bT (v := !n_1.sure.null) hb) ?_
   exact WL.end_ (kg hK_2')
  ·refine WL.set 7 rfl (congrArg zB hb) ?_
   refine wk ?_
   refine wk ?_
   refine wk ?_
   refine wk ?_
   refine wk ?_
   refine wv (OV.pickF rfl rfl) ?_
   refine WL.set 13 rfl (bF (v := !n_1.sure.null) hb) ?_
   exact WL.end_ (kg hK_2')
 refine wa ?_
 refine WL.nil ?_
 refine kg (hK_1' [(2, zB (n_0.sure.null && (!n_1.sure.null)))] _ ?_)
 refine c9 ?_
 exact hE.ret [] rfl rfl (.inl ⟨_, h, rfl⟩) (f9.of1 rfl (RV.tmp rfl))
def ai2  (K : Tr → Prop) : Prop :=
 K (.cls cs0)
theorem aqi   (K : Tr → Prop) (h : ai2  K) :
  d5 Tryd.prog 23 [Tr.val Tr.none] [] [] (fun o => (∃ (v : Tr), K v ∧ o = .ret (Tr.val v) []) ∨ (False)) := by
 unfold ai2 at h
 refine c8 (n := 66) (L0 := [(0, Tr.val Tr.none)]) Tryd.func23 rfl rfl rfl rfl (fun w0 M Q hE => ?_)
 refine a6 (fun _ hK => ?_)
 refine a4 ?_
 refine wa ?_
 refine WL.nil ?_
 refine kg (hK [(0, Tr.val Tr.none)] _ ?_)
 refine a6 (fun _ hK_1' => ?_)
 refine a6 (fun _ hK_2' => ?_)
 refine a4 ?_
 refine wm ?_
 refine WL.nil ?_
 refine kg (hK_2' [(0, Tr.val Tr.none), (9, Tr.val Tr.none)] _ ?_)
 refine d6 ?_
 refine a6 (fun _ hK_3' => ?_)
 refine a4 ?_
 refine wv (OV.eqlNil0 rfl Tryd.underlying23) ?_
 refine WL.nil ?_
 refine kg (hK_3' [(0, Tr.val Tr.none), (9, Tr.val Tr.none), (10, zB true)] _ ?_)
 refine w5 rfl ?_
 refine a6 (fun _ hK_4' => ?_)
 refine a4 ?_
 refine wa ?_
 refine WL.nil ?_
 refine KX.go (hK_4' [] _ ?_) trivial
 refine a6 (fun _ hK_5' => ?_)
 refine a4 ?_
 refine wv (OV.build rfl (cs := wl cs0) rfl) ?_
 refine wv (OV.cast (OV.iface rfl aig) (v' := Tr.val (.cls cs0)) rfl) ?_
 refine wa ?_
 refine WL.nil ?_
 refine kg (hK_5' [(2, Tr.val (.cls cs0))] _ ?_)
 refine c9 ?_
 exact hE.ret [] rfl rfl (.inl ⟨_, h, rfl⟩) (f9.of1 rfl (RV.tmp rfl))
def ak5  (K : Tr → Prop) : Prop :=
 K .eps
theorem as2   (K : Tr → Prop) (h : ak5  K) :
  d5 Tryd.prog 23 [Tr.val .eps] [] [] (fun o => (∃ (v : Tr), K v ∧ o = .ret (Tr.val v) []) ∨ (False)) := by
 unfold ak5 at h
 refine c8 (n := 66) (L0 := [(0, Tr.val .eps)]) Tryd.func23 rfl rfl rfl rfl (fun w0 M Q hE => ?_)
 refine a6 (fun _ hK => ?_)
 refine a4 ?_
 refine wa ?_
 refine WL.nil ?_
 refine kg (hK [(0, Tr.val .eps)] _ ?_)
 refine a6 (fun _ hK_1' => ?_)
 refine a6 (fun _ hK_2' => ?_)
 refine a4 ?_
 refine wm ?_
 refine WL.nil ?_
 refine kg (hK_2' [(0, Tr.val .eps), (9, Tr.val .eps)] _ ?_)
 refine d6 ?_
 refine a6 (fun _ hK_3' => ?_)
 refine a4 ?_
 refine wv (OV.eqlNil (v := Value.agg [].toArray) rfl rfl Tryd.underlying23) ?_
 refine WL.nil ?_
 refine kg (hK_3' [(0, Tr.val .eps), (9, Tr.val .eps), (10, zB false)] _ ?_)
 refine f0 rfl ?_
 refine a6 (fun _ hK_4' => ?_)
 refine a4 ?_
 refine wv (OV.assertNo (t2 := 78) (v := Value.agg [].toArray) rfl aca adf rfl) ?_
 refine wv (OV.extract 1 rfl rfl) ?_
 refine wv (OV.extract 0 rfl rfl) ?_
 refine WL.nil ?_
 refine kg (hK_4' [(0, Tr.val .eps), (9, Tr.val .eps), (14, zB false), (15, Value.agg [Tr.val Tr.none, Tr.val Tr.none].toArray)] _ ?_)
 refine f0 rfl ?_
 refine a6 (fun _ hK_5' => ?_)
 refine a4 ?_
 refine wv (OV.assertNo (t2 := 78) (v := Value.agg [].toArray) rfl aa5 ab9 rfl) ?_
 refine wv (OV.extract 1 rfl rfl) ?_
 refine wv (OV.extract 0 rfl rfl) ?_
 refine WL.nil ?_
 refine kg (hK_5' [(0, Tr.val .eps), (9, Tr.val .eps), (25, zB false), (26, Value.agg [Tr.val Tr.none, Tr.val Tr.none].toArray)] _ ?_)
 refine f0 rfl ?_
 refine a6 (fun _ hK_6' => ?_)
 refine a4 ?_
 refine wv (OV.assertNo (t2 := 78) (v := Value.agg [].toArray) rfl ab8 adn rfl) ?_
 refine wv (OV.extract 1 rfl rfl) ?_
 refine wv (OV.extract 0 rfl rfl) ?_
 refine WL.nil ?_
 refine kg (hK_6' [(0, Tr.val .eps), (9, Tr.val .eps), (36, zB false), (37, Value.agg [Tr.val Tr.none, Tr.val Tr.none].toArray)] _ ?_)
 refine f0 rfl ?_
 refine a6 (fun _ hK_7' => ?_)
 refine a4 ?_
 refine wv (OV.assertNo (t2 := 78) (v := Value.agg [].toArray) rfl adg afk rfl) ?_
 refine wv (OV.extract 1 rfl rfl) ?_
 refine wv (OV.extract 0 rfl rfl) ?_
 refine WL.nil ?_
 refine kg (hK_7' [(0, Tr.val .eps), (9, Tr.val .eps), (47, zB false), (48, Value.agg [Tr.val Tr.none, Tr.val Tr.none].toArray)] _ ?_)
 refine f0 rfl ?_
 refine a6 (fun _ hK_8' => ?_)
 refine a4 ?_
 refine wv (OV.assertNo (t2 := 78) (v := Value.agg [].toArray) rfl ag2 aoe rfl) ?_
 refine wv (OV.extract 1 rfl rfl) ?_
 refine wv (OV.extract 0 rfl rfl) ?_
 refine WL.nil ?_
 refine kg (hK_8' [(0, Tr.val .eps), (58, zB false), (59, Value.agg [Tr.val Tr.none].toArray)] _ ?_)
 refine f0 rfl ?_
 refine b7 ?_
 refine kg (hK_1' [(0, Tr.val .eps)] _ ?_)
 refine a6 (fun _ hK_9' => ?_)
 refine a4 ?_
 refine wm ?_
 refine wa ?_
 refine WL.nil ?_
 refine kg (hK_9' [(2, Tr.val .eps)] _ ?_)
 refine c9 ?_
 exact hE.ret [] rfl rfl (.inl ⟨_, h, rfl⟩) (f9.of1 rfl (RV.tmp rfl))
def alb (xs : CS) (K : Tr → Prop) : Prop :=
 K (.cls xs)
theorem aso  (xs : CS) (K : Tr → Prop) (h : alb xs K) :
  d5 Tryd.prog 23 [Tr.val (.cls xs)] [] [] (fun o => (∃ (v : Tr), K v ∧ o = .ret (Tr.val v) []) ∨ (False)) := by
 unfold alb at h
 refine c8 (n := 66) (L0 := [(0, Tr.val (.cls xs))]) Tryd.func23 rfl rfl rfl rfl (fun w0 M Q hE => ?_)
 refine a6 (fun _ hK => ?_)
 refine a4 ?_
 refine wa ?_
 refine WL.nil ?_
 refine kg (hK [(0, Tr.val (.cls xs))] _ ?_)
 refine a6 (fun _ hK_1' => ?_)
 refine a6 (fun _ hK_2' => ?_)
 refine a4 ?_
 refine wm ?_
 refine WL.nil ?_
 refine kg (hK_2' [(0, Tr.val (.cls xs)), (9, Tr.val (.cls xs))] _ ?_)
 refine d6 ?_
 refine a6 (fun _ hK_3' => ?_)
 refine a4 ?_
 refine wv (OV.eqlNil (v := Value.agg (wl xs).toArray) rfl rfl Tryd.underlying23) ?_
 refine WL.nil ?_
 refine kg (hK_3' [(0, Tr.val (.cls xs)), (9, Tr.val (.cls xs)), (10, zB false)] _ ?_)
 refine f0 rfl ?_
 refine a6 (fun _ hK_4' => ?_)
 refine a4 ?_
 refine wv (OV.assertNo (t2 := 83) (v := Value.agg (wl xs).toArray) rfl aca adf rfl) ?_
 refine wv (OV.extract 1 rfl rfl) ?_
 refine wv (OV.extract 0 rfl rfl) ?_
 refine WL.nil ?_
 refine kg (hK_4' [(0, Tr.val (.cls xs)), (9, Tr.val (.cls xs)), (14, zB false), (15, Value.agg [Tr.val Tr.none, Tr.val Tr.none].toArray)] _ ?_)
 refine f0 rfl ?_
 refine a6 (fun _ hK_5' => ?_)
 refine a4 ?_
 refine wv (OV.assertNo (t2 := 83) (v := Value.agg (wl xs).toArray) rfl aa5 ab9 rfl) ?_
 refine wv (OV.extract 1 rfl rfl) ?_
 refine wv (OV.extract 0 rfl rfl) ?_
 refine WL.nil ?_
 refine kg (hK_5' [(0, Tr.val (.cls xs)), (9, Tr.val (.cls xs)), (25, zB false), (26, Value.agg [Tr.val Tr.none, Tr.val Tr.none].toArray)] _ ?_)
 refine f0 rfl ?_
 refine a6 (fun _ hK_6' => ?_)
 refine a4 ?_
 refine wv (OV.assertNo (t2 := 83) (v := Value.agg (wl xs).toArray) rfl ab8 adn rfl) ?_
 refine wv (OV.extract 1 rfl rfl) ?_
 refine wv (OV.extract 0 rfl rfl) ?_
 refine WL.nil ?_
 refine kg (hK_6' [(0, Tr.val (.cls xs)), (9, Tr.val (.cls xs)), (36, zB false), (37, Value.agg [Tr.val Tr.none, Tr.val Tr.none].toArray)] _ ?_)
 refine f0 rfl ?_
 refine a6 (fun _ hK_7' => ?_)
 refine a4 ?_
 refine wv (OV.assertNo (t2 := 83) (v := Value.agg (wl xs).toArray) rfl adg afk rfl) ?_
 refine wv (OV.extract 1 rfl rfl) ?_
 refine wv (OV.extract 0 rfl rfl) ?_
 refine WL.nil ?_
 refine kg (hK_7' [(0, Tr.val (.cls xs)), (9, Tr.val (.cls xs)), (47, zB false), (48, Value.agg [Tr.val Tr.none, Tr.val Tr.none].toArray)] _ ?_)
 refine f0 rfl ?_
 refine a6 (fun _ hK_8' => ?_)
 refine a4 ?_
 refine wv (OV.assertNo (t2 := 83) (v := Value.agg (wl xs).toArray) rfl ag2 aoe rfl) ?_
 refine wv (OV.extract 1 rfl rfl) ?_
 refine wv (OV.extract 0 rfl rfl) ?_
 refine WL.nil ?_
 refine kg (hK_8' [(0, Tr.val (.cls xs)), (58, zB false), (59, Value.agg [Tr.val Tr.none].toArray)] _ ?_)
 refine f0 rfl ?_
 refine b7 ?_
 refine kg (hK_1' [(0, Tr.val (.cls xs))] _ ?_)
 refine a6 (fun _ hK_9' => ?_)
 refine a4 ?_
 refine wm ?_
 refine wa ?_
 refine WL.nil ?_
 refine kg (hK_9' [(2, Tr.val (.cls xs))] _ ?_)
 refine c9 ?_
 exact hE.ret [] rfl rfl (.inl ⟨_, h, rfl⟩) (f9.of1 rfl (RV.tmp rfl))
def ak3 (xa : Tr) (xb : Tr) (K : Tr → Prop) : Prop :=
 (d5 Tryd.prog 23 [Tr.val xa] [] [] (Ret (Tr.val xa.whole) [])) ∧
 (d5 Tryd.prog 23 [Tr.val xb] [] [] (Ret (Tr.val xb.whole) [])) ∧
 K (.cat xa.whole xb.whole)
theorem art  (xa : Tr) (xb : Tr) (K : Tr → Prop) (h : ak3 xa xb K) :
  d5 Tryd.prog 23 [Tr.val (.cat xa xb)] [] [] (fun o => (∃ (v : Tr), K v ∧ o = .ret (Tr.val v) []) ∨ (False)) := by
 unfold ak3 at h
 refine c8 (n := 66) (L0 := [(0, Tr.val (.cat xa xb))]) Tryd.func23 rfl rfl rfl rfl (fun w0 M Q hE => ?_)
 refine a6 (fun _ hK => ?_)
 refine a4 ?_
 refine wa ?_
 refine WL.nil ?_
 refine kg (hK [(0, Tr.val (.cat xa xb))] _ ?_)
 refine a6 (fun _ hK_1' => ?_)
 refine a6 (fun _ hK_2' => ?_)
 refine a4 ?_
 refine wm ?_
 refine WL.nil ?_
 refine kg (hK_2' [(0, Tr.val (.cat xa xb)), (9, Tr.val (.cat xa xb))] _ ?_)
 refine d6 ?_
 refine a6 (fun _ hK_3' => ?_)
 refine a4 ?_
 refine wv (OV.eqlNil (v := Value.agg [Tr.val xa, Tr.val xb].toArray) rfl rfl Tryd.underlying23) ?_
 refine WL.nil ?_
 refine kg (hK_3' [(0, Tr.val (.cat xa xb)), (9, Tr.val (.cat xa xb)), (10, zB false)] _ ?_)
 refine f0 rfl ?_
 refine a6 (fun _ hK_4' => ?_)
 refine a4 ?_
 refine wv (OV.assertYes (t' := 89) (v := Value.agg [Tr.val xa, Tr.val xb].toArray) rfl aca) ?_
 refine wv (OV.extract 1 rfl rfl) ?_
 refine wv (OV.extract 0 rfl rfl) ?_
 refine WL.nil ?_
 refine kg (hK_4' [(0, Tr.val (.cat xa xb)), (9, Tr.val (.cat xa xb)), (14, zB true), (15, Value.agg [Tr.val xa, Tr.val xb].toArray)] _ ?_)
 refine w5 rfl ?_
 refine a6 (fun _ hK_5' => ?_)
 refine a4 ?_
 refine WL.make (MV.alloc amx) rfl rfl rfl (fun b => ?_)
 refine WL.storeW (vs := [Tr.val xa, Tr.val xb]) 0 rfl rfl rfl rfl rfl am0 rfl (d4 (Tr.val_one _) (d4 (Tr.val_one _) m6)) rfl ?_
 refine WL.nil ?_
 refine kg (hK_5' [(4, zP b)] _ ?_)
 refine a6 (fun _ hK_6' => ?_)
 refine q9 5 [] g8 (by kernel_rfl) rfl (fun T hT => ?_)
 refine fv (fun _ => OV.fieldAddr0 rfl ae0) ?_
 refine fv (fun _ => OV.load rfl (At.own 0 rfl) rfl m4) ?_
 obtain ⟨o, h⟩ := h
 refine FL.call aaw (fun _ => rfl) (o) trivial rfl (fun _ => rfl) rfl ?_
 refine fv (fun _ => OV.fieldAddr0 rfl ae5) ?_
 refine fv (fun _ => OV.load rfl (At.own 0 rfl) rfl m4) ?_
 refine FL.weak (L' := fun γ => [(18, Tr.val xa.whole), (20, Tr.val xb)]) (fun γ => ⟨rfl, rfl, trivial⟩) (FL.nil (hT (fun γ => [(18, Tr.val xa.whole), (20, Tr.val xb)]) (fun γ => ?_)))
 obtain ⟨o_1', h⟩ := h
 refine WL.call (A := []) aaw rfl (o_1') rfl trivial rfl rfl ?_
 refine wv (OV.buildC (qs := [(0, [Tr.val xa.whole]), (1, [Tr.val xb.whole])]) (cs := [Tr.val xa.whole, Tr.val xb.whole]) rfl ⟨rfl, Tr.val_cells _, ⟨rfl, Tr.val_cells _, trivial⟩⟩ rfl) ?_
 refine wv (OV.cast (OV.iface rfl amk) (v' := Tr.val (.cat xa.whole xb.whole)) rfl) ?_
 refine wa ?_
 refine WL.nil ?_
 refine kg (hK_6' [(2, Tr.val (.cat xa.whole xb.whole))] _ ?_)
 refine c9 ?_
 exact hE.ret [] rfl rfl (.inl ⟨_, h, rfl⟩) (f9.of1 rfl (RV.tmp rfl))
def ala (xa : Tr) (xb : Tr) (K : Tr → Prop) : Prop :=
 (d5 Tryd.prog 23 [Tr.val xa] [] [] (Ret (Tr.val xa.whole) [])) ∧
 (d5 Tryd.prog 23 [Tr.val xb] [] [] (Ret (Tr.val xb.whole) [])) ∧
 K (.alt xa.whole xb.whole)
theorem ar3  (xa : Tr) (xb : Tr) (K : Tr → Prop) (h : ala xa xb K) :
  d5 Tryd.prog 23 [Tr.val (.alt xa xb)] [] [] (fun o => (∃ (v : Tr), K v ∧ o = .ret (Tr.val v) []) ∨ (False)) := by
 unfold ala at h
 refine c8 (n := 66) (L0 := [(0, Tr.val (.alt xa xb))]) Tryd.func23 rfl rfl rfl rfl (fun w0 M Q hE => ?_)
 refine a6 (fun _ hK => ?_)
 refine a4 ?_
 refine wa ?_
 refine WL.nil ?_
 refine kg (hK [(0, Tr.val (.alt xa xb))] _ ?_)
 refine a6 (fun _ hK_1' => ?_)
 refine a6 (fun _ hK_2' => ?_)
 refine a4 ?_
 refine wm ?_
 refine WL.nil ?_
 refine kg (hK_2' [(0, Tr.val (.alt xa xb)), (9, Tr.val (.alt xa xb))] _ ?_)
 refine d6 ?_
 refine a6 (fun _ hK_3' => ?_)
 refine a4 ?_
 refine wv (OV.eqlNil (v := Value.agg [Tr.val xa, Tr.val xb].toArray) rfl rfl Tryd.underlying23) ?_
 refine WL.nil ?_
 refine kg (hK_3' [(0, Tr.val (.alt xa xb)), (9, Tr.val (.alt xa xb)), (10, zB false)] _ ?_)
 refine f0 rfl ?_
 refine a6 (fun _ hK_4' => ?_)
 refine a4 ?_
 refine wv (OV.assertNo (t2 := 86) (v := Value.agg [Tr.val xa, Tr.val xb].toArray) rfl aca adf rfl) ?_
 refine wv (OV.extract 1 rfl rfl) ?_
 refine wv (OV.extract 0 rfl rfl) ?_
 refine WL.nil ?_
 refine kg (hK_4' [(0, Tr.val (.alt xa xb)), (9, Tr.val (.alt xa xb)), (14, zB false), (15, Value.agg [Tr.val Tr.none, Tr.val Tr.none].toArray)] _ ?_)
 refine f0 rfl ?_
 refine a6 (fun _ hK_5' => ?_)
 refine a4 ?_
 refine wv (OV.assertYes (t' := 86) (v := Value.agg [Tr.val xa, Tr.val xb].toArray) rfl aa5) ?_
 refine wv (OV.extract 1 rfl rfl) ?_
 refine wv (OV.extract 0 rfl rfl) ?_
 refine WL.nil ?_
 refine kg (hK_5' [(0, Tr.val (.alt xa xb)), (9, Tr.val (.alt xa xb)), (25, zB true), (26, Value.agg [Tr.val xa, Tr.val xb].toArray)] _ ?_)
 refine w5 rfl ?_
 refine a6 (fun _ hK_6' => ?_)
 refine a4 ?_
 refine WL.make (MV.alloc al9) rfl rfl rfl (fun b => ?_)
 refine WL.storeW (vs := [Tr.val xa, Tr.val xb]) 0 rfl rfl rfl rfl rfl anu rfl (d4 (Tr.val_one _) (d4 (Tr.val_one _) m6)) rfl ?_
 refine WL.nil ?_
 refine kg (hK_6' [(5, zP b)] _ ?_)
 refine a6 (fun _ hK_7' => ?_)
 refine q9 5 [] g8 (by kernel_rfl) rfl (fun T hT => ?_)
 refine fv (fun _ => OV.fieldAddr0 rfl aeu) ?_
 refine fv (fun _ => OV.load rfl (At.own 0 rfl) rfl m4) ?_
 obtain ⟨o, h⟩ := h
 refine FL.call aaw (fun _ => rfl) (o) trivial rfl (fun _ => rfl) rfl ?_
 refine fv (fun _ => OV.fieldAddr0 rfl ae6) ?_
 refine fv (fun _ => OV.load rfl (At.own 0 rfl) rfl m4) ?_
 refine FL.weak (L' := fun γ => [(29, Tr.val xa.whole), (31, Tr.val xb)]) (fun γ => ⟨rfl, rfl, trivial⟩) (FL.nil (hT (fun γ => [(29, Tr.val xa.whole), (31, Tr.val xb)]) (fun γ => ?_)))
 obtain ⟨o_1', h⟩ := h
 refine WL.call (A := []) aaw rfl (o_1') rfl trivial rfl rfl ?_
 refine wv (OV.buildC (qs := [(0, [Tr.val xa.whole]), (1, [Tr.val xb.whole])]) (cs := [Tr.val xa.whole, Tr.val xb.whole]) rfl ⟨rfl, Tr.val_cells _, ⟨rfl, Tr.val_cells _, trivial⟩⟩ rfl) ?_
 refine wv (OV.cast (OV.iface rfl an6) (v' := Tr.val (.alt xa.whole xb.whole)) rfl) ?_
 refine wa ?_
 refine WL.nil ?_
 refine kg (hK_7' [(2, Tr.val (.alt xa.whole xb.whole))] _ ?_)
 refine c9 ?_
 exact hE.ret [] rfl rfl (.inl ⟨_, h, rfl⟩) (f9.of1 rfl (RV.tmp rfl))
def aje (xa : Tr) (K : Tr → Prop) : Prop :=
 (d5 Tryd.prog 23 [Tr.val xa] [] [] (Ret (Tr.val xa.whole) [])) ∧
 K (.star xa.whole)
theorem ap7  (xa : Tr) (K : Tr → Prop) (h : aje xa K) :
  d5 Tryd.prog 23 [Tr.val (.star xa)] [] [] (fun o => (∃ (v : Tr), K v ∧ o = .ret (Tr.val v) []) ∨ (False)) := by
 unfold aje at h
 refine c8 (n := 66) (L0 := [(0, Tr.val (.star xa))]) Tryd.func23 rfl rfl rfl rfl (fun w0 M Q hE => ?_)
 refine a6 (fun _ hK => ?_)
 refine a4 ?_
 refine wa ?_
 refine WL.nil ?_
 refine kg (hK [(0, Tr.val (.star xa))] _ ?_)
 refine a6 (fun _ hK_1' => ?_)
 refine a6 (fun _ hK_2' => ?_)
 refine a4 ?_
 refine wm ?_
 refine WL.nil ?_
 refine kg (hK_2' [(0, Tr.val (.star xa)), (9, Tr.val (.star xa))] _ ?_)
 refine d6 ?_
 refine a6 (fun _ hK_3' => ?_)
 refine a4 ?_
 refine wv (OV.eqlNil (v := Value.agg [Tr.val xa].toArray) rfl rfl Tryd.underlying23) ?_
 refine WL.nil ?_
 refine kg (hK_3' [(0, Tr.val (.star xa)), (9, Tr.val (.star xa)), (10, zB false)] _ ?_)
 refine f0 rfl ?_
 refine a6 (fun _ hK_4' => ?_)
 refine a4 ?_
 refine wv (OV.assertNo (t2 := 91) (v := Value.agg [Tr.val xa].toArray) rfl aca adf rfl) ?_
 refine wv (OV.extract 1 rfl rfl) ?_
 refine wv (OV.extract 0 rfl rfl) ?_
 refine WL.nil ?_
 refine kg (hK_4' [(0, Tr.val (.star xa)), (9, Tr.val (.star xa)), (14, zB false), (15, Value.agg [Tr.val Tr.none, Tr.val Tr.none].toArray)] _ ?_)
 refine f0 rfl ?_
 refine a6 (fun _ hK_5' => ?_)
 refine a4 ?_
 refine wv (OV.assertNo (t2 := 91) (v := Value.agg [Tr.val xa].toArray) rfl aa5 ab9 rfl) ?_
 refine wv (OV.extract 1 rfl rfl) ?_
 refine wv (OV.extract 0 rfl rfl) ?_
 refine WL.nil ?_
 refine kg (hK_5' [(0, Tr.val (.star xa)), (9, Tr.val (.star xa)), (25, zB false), (26, Value.agg [Tr.val Tr.none, Tr.val Tr.none].toArray)] _ ?_)
 refine f0 rfl ?_
 refine a6 (fun _ hK_6' => ?_)
 refine a4 ?_
 refine wv (OV.assertNo (t2 := 91) (v := Value.agg [Tr.val xa].toArray) rfl ab8 adn rfl) ?_
 refine wv (OV.extract 1 rfl rfl) ?_
 refine wv (OV.extract 0 rfl rfl) ?_
 refine WL.nil ?_
 refine kg (hK_6' [(0, Tr.val (.star xa)), (9, Tr.val (.star xa)), (36, zB false), (37, Value.agg [Tr.val Tr.none, Tr.val Tr.none].toArray)] _ ?_)
 refine f0 rfl ?_
 refine a6 (fun _ hK_7' => ?_)
 refine a4 ?_
 refine wv (OV.assertNo (t2 := 91) (v := Value.agg [Tr.val xa].toArray) rfl adg afk rfl) ?_
 refine wv (OV.extract 1 rfl rfl) ?_
 refine wv (OV.extract 0 rfl rfl) ?_
 refine WL.nil ?_
 refine kg (hK_7' [(0, Tr.val (.star xa)), (9, Tr.val (.star xa)), (47, zB false), (48, Value.agg [Tr.val Tr.none, Tr.val Tr.none].toArray)] _ ?_)
 refine f0 rfl ?_
 refine a6 (fun _ hK_8' => ?_)
 refine a4 ?_
 refine wv (OV.assertYes (t' := 91) (v := Value.agg [Tr.val xa].toArray) rfl ag2) ?_
 refine wv (OV.extract 1 rfl rfl) ?_
 refine wv (OV.extract 0 rfl rfl) ?_
 refine WL.nil ?_
 refine kg (hK_8' [(0, Tr.val (.star xa)), (58, zB true), (59, Value.agg [Tr.val xa].toArray)] _ ?_)
 refine w5 rfl ?_
 refine a6 (fun _ hK_9' => ?_)
 refine a4 ?_
 refine WL.make (MV.alloc ane) rfl rfl rfl (fun b => ?_)
 refine WL.store (vs := [Tr.val xa]) (cs' := [Tr.val xa]) 0 rfl rfl rfl rfl am3 (Nat.le_of_ble_eq_true rfl) (d4 (Tr.val_one _) m6) rfl rfl ?_
 refine WL.nil ?_
 refine kg (hK_9' [(8, zP b)] _ ?_)
 refine a6 (fun _ hK_10' => ?_)
 refine a4 ?_
 refine wv (OV.fieldAddr0 rfl ahu) ?_
 refine wv (OV.load rfl (At.own 0 rfl) rfl m4) ?_
 obtain ⟨o, h⟩ := h
 refine WL.call (A := []) aaw rfl (o) rfl trivial rfl rfl ?_
 refine wv (OV.buildC (qs := [(0, [Tr.val xa.whole])]) (cs := [Tr.val xa.whole]) rfl ⟨rfl, Tr.val_cells _, trivial⟩ rfl) ?_
 refine wv (OV.cast (OV.iface rfl al1) (v' := Tr.val (.star xa.whole)) rfl) ?_
 refine wa ?_
 refine WL.nil ?_
 refine kg (hK_10' [(2, Tr.val (.star xa.whole))] _ ?_)
 refine c9 ?_
 exact hE.ret [] rfl rfl (.inl ⟨_, h, rfl⟩) (f9.of1 rfl (RV.tmp rfl))
def ak8 (xa : Tr) (xb : Tr) (K : Tr → Prop) : Prop :=
 (d5 Tryd.prog 23 [Tr.val xa] [] [] (Ret (Tr.val xa.whole) [])) ∧
 (d5 Tryd.prog 23 [Tr.val xb] [] [] (Ret (Tr.val xb.whole) [])) ∧
 K (.and xa.whole xb.whole)
theorem asl  (xa : Tr) (xb : Tr) (K : Tr → Prop) (h : ak8 xa xb K) :
  d5 Tryd.prog 23 [Tr.val (.and xa xb)] [] [] (fun o => (∃ (v : Tr), K v ∧ o = .ret (Tr.val v) []) ∨ (False)) := by
 unfold ak8 at h
 refine c8 (n := 66) (L0 := [(0, Tr.val (.and xa xb))]) Tryd.func23 rfl rfl rfl rfl (fun w0 M Q hE => ?_)
 refine a6 (fun _ hK => ?_)
 refine a4 ?_
 refine wa ?_
 refine WL.nil ?_
 refine kg (hK [(0, Tr.val (.and xa xb))] _ ?_)
 refine a6 (fun _ hK_1' => ?_)
 refine a6 (fun _ hK_2' => ?_)
 refine a4 ?_
 refine wm ?_
 refine WL.nil ?_
 refine kg (hK_2' [(0, Tr.val (.and xa xb)), (9, Tr.val (.and xa xb))] _ ?_)
 refine d6 ?_
 refine a6 (fun _ hK_3' => ?_)
 refine a4 ?_
 refine wv (OV.eqlNil (v := Value.agg [Tr.val xa, Tr.val xb].toArray) rfl rfl Tryd.underlying23) ?_
 refine WL.nil ?_
 refine kg (hK_3' [(0, Tr.val (.and xa xb)), (9, Tr.val (.and xa xb)), (10, zB false)] _ ?_)
 refine f0 rfl ?_
 refine a6 (fun _ hK_4' => ?_)
 refine a4 ?_
 refine wv (OV.assertNo (t2 := 87) (v := Value.agg [Tr.val xa, Tr.val xb].toArray) rfl aca adf rfl) ?_
 refine wv (OV.extract 1 rfl rfl) ?_
 refine wv (OV.extract 0 rfl rfl) ?_
 refine WL.nil ?_
 refine kg (hK_4' [(0, Tr.val (.and xa xb)), (9, Tr.val (.and xa xb)), (14, zB false), (15, Value.agg [Tr.val Tr.none, Tr.val Tr.none].toArray)] _ ?_)
 refine f0 rfl ?_
 refine a6 (fun _ hK_5' => ?_)
 refine a4 ?_
 refine wv (OV.assertNo (t2 := 87) (v := Value.agg [Tr.val xa, Tr.val xb].toArray) rfl aa5 ab9 rfl) ?_
 refine wv (OV.extract 1 rfl rfl) ?_
 refine wv (OV.extract 0 rfl rfl) ?_
 refine WL.nil ?_
 refine kg (hK_5' [(0, Tr.val (.and xa xb)), (9, Tr.val (.and xa xb)), (25, zB false), (26, Value.agg [Tr.val Tr.none, Tr.val Tr.none].toArray)] _ ?_)
 refine f0 rfl ?_
 refine a6 (fun _ hK_6' => ?_)
 refine a4 ?_
 refine wv (OV.assertYes (t' := 87) (v := Value.agg [Tr.val xa, Tr.val xb].toArray) rfl ab8) ?_
 refine wv (OV.extract 1 rfl rfl) ?_
 refine wv (OV.extract 0 rfl rfl) ?_
 refine WL.nil ?_
 refine kg (hK_6' [(0, Tr.val (.and xa xb)), (9, Tr.val (.and xa xb)), (36, zB true), (37, Value.agg [Tr.val xa, Tr.val xb].toArray)] _ ?_)
 refine w5 rfl ?_
 refine a6 (fun _ hK_7' => ?_)
 refine a4 ?_
 refine WL.make (MV.alloc amo) rfl rfl rfl (fun b => ?_)
 refine WL.storeW (vs := [Tr.val xa, Tr.val xb]) 0 rfl rfl rfl rfl rfl am1 rfl (d4 (Tr.val_one _) (d4 (Tr.val_one _) m6)) rfl ?_
 refine WL.nil ?_
 refine kg (hK_7' [(6, zP b)] _ ?_)
 refine a6 (fun _ hK_8' => ?_)
 refine q9 5 [] g8 (by kernel_rfl) rfl (fun T hT => ?_)
 refine fv (fun _ => OV.fieldAddr0 rfl aey) ?_
 refine fv (fun _ => OV.load rfl (At.own 0 rfl) rfl m4) ?_
 obtain ⟨o, h⟩ := h
 refine FL.call aaw (fun _ => rfl) (o) trivial rfl (fun _ => rfl) rfl ?_
 refine fv (fun _ => OV.fieldAddr0 rfl aew) ?_
 refine fv (fun _ => OV.load rfl (At.own 0 rfl) rfl m4) ?_
 refine FL.weak (L' := fun γ => [(40, Tr.val xa.whole), (42, Tr.val xb)]) (fun γ => ⟨rfl, rfl, trivial⟩) (FL.nil (hT (fun γ => [(40, Tr.val xa.whole), (42, Tr.val xb)]) (fun γ => ?_)))
 obtain ⟨o_1', h⟩ := h
 refine WL.call (A := []) aaw rfl (o_1') rfl trivial rfl rfl ?_
 refine wv (OV.buildC (qs := [(0, [Tr.val xa.whole]), (1, [Tr.val xb.whole])]) (cs := [Tr.val xa.whole, Tr.val xb.whole]) rfl ⟨rfl, Tr.val_cells _, ⟨rfl, Tr.val_cells _, trivial⟩⟩ rfl) ?_
 refine wv (OV.cast (OV.iface rfl anv) (v' := Tr.val (.and xa.whole xb.whole)) rfl) ?_
 refine wa ?_
 refine WL.nil ?_
 refine kg (hK_8' [(2, Tr.val (.and xa.whole xb.whole))] _ ?_)
 refine c9 ?_
 exact hE.ret [] rfl rfl (.inl ⟨_, h, rfl⟩) (f9.of1 rfl (RV.tmp rfl))
def ah1 (xa : Tr) (xb : Tr) (K : Tr → Prop) : Prop :=
 (d5 Tryd.prog 23 [Tr.val xa] [] [] (Ret (Tr.val xa.whole) [])) ∧
 (d5 Tryd.prog 23 [Tr.val xb] [] [] (Ret (Tr.val xb.whole) [])) ∧
 K (.minus xa.whole xb.whole)
theorem aom  (xa : Tr) (xb : Tr) (K : Tr → Prop) (h : ah1 xa xb K) :
  d5 Tryd.prog 23 [Tr.val (.minus xa xb)] [] [] (fun o => (∃ (v : Tr), K v ∧ o = .ret (Tr.val v) []) ∨ (False)) := by
 unfold ah1 at h
 refine c8 (n := 66) (L0 := [(0, Tr.val (.minus xa xb))]) Tryd.func23 rfl rfl rfl rfl (fun w0 M Q hE => ?_)
 refine a6 (fun _ hK => ?_)
 refine a4 ?_
 refine wa ?_
 refine WL.nil ?_
 refine kg (hK [(0, Tr.val (.minus xa xb))] _ ?_)
 refine a6 (fun _ hK_1' => ?_)
 refine a6 (fun _ hK_2' => ?_)
 refine a4 ?_
 refine wm ?_
 refine WL.nil ?_
 refine kg (hK_2' [(0, Tr.val (.minus xa xb)), (9, Tr.val (.minus xa xb))] _ ?_)
 refine d6 ?_
 refine a6 (fun _ hK_3' => ?_)
 refine a4 ?_
 refine wv (OV.eqlNil (v := Value.agg [Tr.val xa, Tr.val xb].toArray) rfl rfl Tryd.underlying23) ?_
 refine WL.nil ?_
 refine kg (hK_3' [(0, Tr.val (.minus xa xb)), (9, Tr.val (.minus xa xb)), (10, zB false)] _ ?_)
 refine f0 rfl ?_
 refine a6 (fun _ hK_4' => ?_)
 refine a4 ?_
 refine wv (OV.assertNo (t2 := 88) (v := Value.agg [Tr.val xa, Tr.val xb].toArray) rfl aca adf rfl) ?_
 refine wv (OV.extract 1 rfl rfl) ?_
 refine wv (OV.extract 0 rfl rfl) ?_
 refine WL.nil ?_
 refine kg (hK_4' [(0, Tr.val (.minus xa xb)), (9, Tr.val (.minus xa xb)), (14, zB false), (15, Value.agg [Tr.val Tr.none, Tr.val Tr.none].toArray)] _ ?_)
 refine f0 rfl ?_
 refine a6 (fun _ hK_5' => ?_)
 refine a4 ?_
 refine wv (OV.assertNo (t2 := 88) (v := Value.agg [Tr.val xa, Tr.val xb].toArray) rfl aa5 ab9 rfl) ?_
 refine wv (OV.extract 1 rfl rfl) ?_
 refine wv (OV.extract 0 rfl rfl) ?_
 refine WL.nil ?_
 refine kg (hK_5' [(0, Tr.val (.minus xa xb)), (9, Tr.val (.minus xa xb)), (25, zB false), (26, Value.agg [Tr.val Tr.none, Tr.val Tr.none].toArray)] _ ?_)
 refine f0 rfl ?_
 refine a6 (fun _ hK_6' => ?_)
 refine a4 ?_
 refine wv (OV.assertNo (t2 := 88) (v := Value.agg [Tr.val xa, Tr.val xb].toArray) rfl ab8 adn rfl) ?_
 refine wv (OV.extract 1 rfl rfl) ?_
 refine wv (OV.extract 0 rfl rfl) ?_
 refine WL.nil ?_
 refine kg (hK_6' [(0, Tr.val (.minus xa xb)), (9, Tr.val (.minus xa xb)), (36, zB false), (37, Value.agg [Tr.val Tr.none, Tr.val Tr.none].toArray)] _ ?_)
 refine f0 rfl ?_
 refine a6 (fun _ hK_7' => ?_)
 refine a4 ?_
 refine wv (OV.assertYes (t' := 88) (v := Value.agg [Tr.val xa, Tr.val xb].toArray) rfl adg) ?_
 refine wv (OV.extract 1 rfl rfl) ?_
 refine wv (OV.extract 0 rfl rfl) ?_
 refine WL.nil ?_
 refine kg (hK_7' [(0, Tr.val (.minus xa xb)), (9, Tr.val (.minus xa xb)), (47, zB true), (48, Value.agg [Tr.val xa, Tr.val xb].toArray)] _ ?_)
 refine w5 rfl ?_
 refine a6 (fun _ hK_8' => ?_)
 refine a4 ?_
 refine WL.make (MV.alloc amh) rfl rfl rfl (fun b => ?_)
 refine WL.storeW (vs := [Tr.val xa, Tr.val xb]) 0 rfl rfl rfl rfl rfl anj rfl (d4 (Tr.val_one _) (d4 (Tr.val_one _) m6)) rfl ?_
 refine WL.nil ?_
 refine kg (hK_8' [(7, zP b)] _ ?_)
 refine a6 (fun _ hK_9' => ?_)
 refine q9 5 [] g8 (by kernel_rfl) rfl (fun T hT => ?_)
 refine fv (fun _ => OV.fieldAddr0 rfl ae2) ?_
 refine fv (fun _ => OV.load rfl (At.own 0 rfl) rfl m4) ?_
 obtain ⟨o, h⟩ := h
 refine FL.call aaw (fun _ => rfl) (o) trivial rfl (fun _ => rfl) rfl ?_
 refine fv (fun _ => OV.fieldAddr0 rfl ae1) ?_
 refine fv (fun _ => OV.load rfl (At.own 0 rfl) rfl m4) ?_
 refine FL.weak (L' := fun γ => [(51, Tr.val xa.whole), (53, Tr.val xb)]) (fun γ => ⟨rfl, rfl, trivial⟩) (FL.nil (hT (fun γ => [(51, Tr.val xa.whole), (53, Tr.val xb)]) (fun γ => ?_)))
 obtain ⟨o_1', h⟩ := h
 refine WL.call (A := []) aaw rfl (o_1') rfl trivial rfl rfl ?_
 refine wv (OV.buildC (qs := [(0, [Tr.val xa.whole]), (1, [Tr.val xb.whole])]) (cs := [Tr.val xa.whole, Tr.val xb.whole]) rfl ⟨rfl, Tr.val_cells _, ⟨rfl, Tr.val_cells _, trivial⟩⟩ rfl) ?_
 refine wv (OV.cast (OV.iface rfl amu) (v' := Tr.val (.minus xa.whole xb.whole)) rfl) ?_
 refine wa ?_
 refine WL.nil ?_
 refine kg (hK_9' [(2, Tr.val (.minus xa.whole xb.whole))] _ ?_)
 refine c9 ?_
 exact hE.ret [] rfl rfl (.inl ⟨_, h, rfl⟩) (f9.of1 rfl (RV.tmp rfl))
theorem Tr.sure_null (x : Tr) : x.sure.null = x.null := by cases x <;> rfl
theorem ar1 (s : CS) : aes Tryd.prog (Tr.cls s).val "Nullable" [] (.bool (Tr.cls s).null) :=
 ⟨_, _, _, rfl, by kernel_rfl, by kernel_rfl, by kernel_rfl, d5.one (aun s (fun v => v = (Tr.cls s).null) rfl)⟩
theorem acp {x : Tr} (h : x.isNone = false → aes Tryd.prog x.val "Nullable" [] (.bool x.null)) : aes Tryd.prog x.sure.val "Nullable" [] (.bool x.sure.null) := by
 cases x <;> first | exact ar1 cs0 | exact h rfl
theorem abx : ∀ x : Tr, x.isNone = false → aes Tryd.prog x.val "Nullable" [] (.bool x.null)
 | .none, h => by cases h
 | .eps, _ => ⟨_, _, _, rfl, by kernel_rfl, by kernel_rfl, by kernel_rfl, d5.one (atj (fun v => v = Tr.null .eps) rfl)⟩
 | .cls s, _ => ar1 s
 | .star a, _ => ⟨_, _, _, rfl, by kernel_rfl, by kernel_rfl, by kernel_rfl, d5.one (ar8 a (fun v => v = Tr.null (.star a)) rfl)⟩
 | .cat a b, _ => ⟨_, _, _, rfl, by kernel_rfl, by kernel_rfl, by kernel_rfl, d5.one (ath a b (fun v => v = Tr.null (.cat a b)) ⟨acp fun h => abx a h, fun _ => acp fun h => abx b h, by simp only [Tr.sure_null, Tr.null]⟩)⟩
 | .alt a b, _ => ⟨_, _, _, rfl, by kernel_rfl, by kernel_rfl, by kernel_rfl, d5.one (atn a b (fun v => v = Tr.null (.alt a b)) ⟨acp fun h => abx a h, fun _ => acp fun h => abx b h, by simp only [Tr.sure_null, Tr.null]⟩)⟩
 | .and a b, _ => ⟨_, _, _, rfl, by kernel_rfl, by kernel_rfl, by kernel_rfl, d5.one (auo a b (fun v => v = Tr.null (.and a b)) ⟨acp fun h => abx a h, fun _ => acp fun h => abx b h, by simp only [Tr.sure_null, Tr.null]⟩)⟩
 | .minus a b, _ => ⟨_, _, _, rfl, by kernel_rfl, by kernel_rfl, by kernel_rfl, d5.one (aqw a b (fun v => v = Tr.null (.minus a b)) ⟨acp fun h => abx a h, fun _ => acp fun h => abx b h, by simp only [Tr.sure_null, Tr.null]⟩)⟩
theorem aag : ∀ x : Tr, d5 Tryd.prog 23 [x.val] [] [] (Ret x.whole.val [])
 | .none => d5.one (aqi (fun v => v = Tr.whole .none) rfl)
 | .eps => d5.one (as2 (fun v => v = Tr.whole .eps) rfl)
 | .cls s => d5.one (aso s (fun v => v = Tr.whole (.cls s)) rfl)
 | .cat a b => d5.one (art a b (fun v => v = Tr.whole (.cat a b)) ⟨aag a, aag b, rfl⟩)
 | .alt a b => d5.one (ar3 a b (fun v => v = Tr.whole (.alt a b)) ⟨aag a, aag b, rfl⟩)
 | .star a => d5.one (ap7 a (fun v => v = Tr.whole (.star a)) ⟨aag a, rfl⟩)
 | .and a b => d5.one (asl a b (fun v => v = Tr.whole (.and a b)) ⟨aag a, aag b, rfl⟩)
 | .minus a b => d5.one (aom a b (fun v => v = Tr.whole (.minus a b)) ⟨aag a, aag b, rfl⟩)
def au9 (a : Tr) (b : Tr) (K : Bool → Prop) : Prop :=
 (d5 Tryd.prog 23 [Tr.val a] [] [] (Ret (Tr.val a.whole) [])) ∧
 (d5 Tryd.prog 23 [Tr.val b] [] [] (Ret (Tr.val b.whole) [])) ∧
 (a.whole ≠ .none ∧ Tr.high a.whole ≤ 4000) ∧
 K (decide (a.whole = b.whole))
theorem a0s  (a : Tr) (b : Tr) (K : Bool → Prop) (h : au9 a b K) :
  d5 Tryd.prog 7 [Tr.val a, Tr.val b] [] [] (fun o => (∃ (v : Bool), K v ∧ o = .ret (zB v) []) ∨ (False)) := by
 unfold au9 at h
 refine c8 (n := 10) (L0 := [(0, Tr.val a), (1, Tr.val b)]) Tryd.func7 rfl rfl rfl rfl (fun w0 M Q hE => ?_)
 refine a6 (fun _ hK => ?_)
 refine a4 ?_
 refine wa ?_
 refine WL.nil ?_
 refine kg (hK [(0, Tr.val a), (1, Tr.val b)] _ ?_)
 refine a6 (fun _ hK_1' => ?_)
 refine a4 ?_
 refine wm ?_
 obtain ⟨o, h⟩ := h
 refine WL.call (A := []) aaw rfl (o) rfl trivial rfl rfl ?_
 refine wm ?_
 obtain ⟨o_1', h⟩ := h
 refine WL.call (A := []) aaw rfl (o_1') rfl trivial rfl rfl ?_
 obtain ⟨o_2', h⟩ := h
 refine wv (OV.eqlTrs rfl rfl o_2') ?_
 refine wa ?_
 refine WL.nil ?_
 refine kg (hK_1' [(4, zB (decide (a.whole = b.whole)))] _ ?_)
 refine c9 ?_
 exact hE.ret [] rfl rfl (.inl ⟨_, h, rfl⟩) (f9.of1 rfl (RV.tmp rfl))
def akp (need : Int) (K : (List UInt8) → Prop) : Prop :=
 ∃ (J0 : Prop),
  (∀ (_ : Unit), J0 →
   (if (decide (4 < need)) = true then
    (([40] : List UInt8).length + ([91, 93] : List UInt8).length ≤ 9223372036854775807) ∧
    ((([40] : List UInt8) ++ ([91, 93] : List UInt8)).length + ([41] : List UInt8).length ≤ 9223372036854775807) ∧
    K ((([40] : List UInt8) ++ ([91, 93] : List UInt8)) ++ ([41] : List UInt8))
   else
    K ([91, 93] : List UInt8))) ∧
  J0
theorem arp (te : TypeId) (fre : Nat × Nat) (need : Int) (K : (List UInt8) → Prop) (h : akp need K) :
  d5 Tryd.prog 13 [Tr.val Tr.none, zI need] [(0, .cells [zU 110, zU 10, zU 114, zU 13, zU 116, zU 9].toArray te fre)] [] (fun o => (∃ (v : List UInt8), K v ∧ o = .ret (st v) []) ∨ (False)) := by
 unfold akp at h
 refine c8 (n := 82) (L0 := [(0, Tr.val Tr.none), (1, zI need)]) Tryd.func13 rfl rfl rfl rfl (fun w0 M Q hE => ?_)
 refine a6 (fun _ hK => ?_)
 refine a4 ?_
 refine wa ?_
 refine WL.nil ?_
 refine kg (hK [(0, Tr.val Tr.none), (1, zI need)] _ ?_)
 refine a6 (fun _ hK_1' => ?_)
 refine a4 ?_
 refine wa ?_
 refine wa ?_
 refine WL.nil ?_
 refine kg (hK_1' [(0, Tr.val Tr.none), (1, zI need), (6, zI 4)] _ ?_)
 obtain ⟨J0, hJ, h⟩ := h
 refine n5 (X := Unit) (fun _ => J0) (fun _ => [(1, zI need), (5, st ([91, 93] : List UInt8)), (6, zI 4)]) (fun _ => []) ?_ (fun K0_11' hK_11' => ?_)
 ·rintro _ hj
  replace h := hJ () hj
  show WC _ _ _ _ [(1, zI need), (5, st ([91, 93] : List UInt8)), (6, zI 4)] []
  refine a6 (fun _ hK_12' => ?_)
  refine a6 (fun _ hK_13' => ?_)
  refine a4 ?_
  refine wm ?_
  refine wm ?_
  refine wv (OV.lss rfl rfl) ?_
  refine WL.nil ?_
  refine kg (hK_13' [(5, st ([91, 93] : List UInt8)), (77, zB (decide (4 < need)))] _ ?_)
  refine b6 (b := decide (4 < need)) rfl (fun hb => ?_) (fun hb => ?_)
  ·replace h := j4 h hb
   refine a6 (fun _ hK_14' => ?_)
   refine a4 ?_
   refine wm ?_
   obtain ⟨o, h⟩ := h
   refine wv (OV.cat rfl rfl o) ?_
   obtain ⟨o_1', h⟩ := h
   refine wv (OV.cat rfl rfl o_1') ?_
   refine wa ?_
   refine WL.nil ?_
   refine kg (hK_14' [(4, st ((([40] : List UInt8) ++ ([91, 93] : List UInt8)) ++ ([41] : List UInt8)))] _ ?_)
   refine c9 ?_
   exact hE.ret [] rfl rfl (.inl ⟨_, h, rfl⟩) (f9.of1 rfl (RV.tmp rfl))
  ·replace h := j5 h hb
   refine b7 ?_
   refine kg (hK_12' [(5, st ([91, 93] : List UInt8))] _ ?_)
   refine a6 (fun _ hK_15' => ?_)
   refine a4 ?_
   refine wm ?_
   refine wa ?_
   refine WL.nil ?_
   refine kg (hK_15' [(4, st ([91, 93] : List UInt8))] _ ?_)
   refine c9 ?_
   exact hE.ret [] rfl rfl (.inl ⟨_, h, rfl⟩) (f9.of1 rfl (RV.tmp rfl))
 ·skip
  refine a6 (fun _ hK_16' => ?_)
  refine a4 ?_
  refine wm ?_
  refine WL.nil ?_
  refine kg (hK_16' [(1, zI need), (6, zI 4), (15, Tr.val Tr.none)] _ ?_)
  refine d6 ?_
  refine a6 (fun _ hK_17' => ?_)
  refine a4 ?_
  refine wv (OV.assertNil rfl adk aeg) ?_
  refine wv (OV.extract 1 rfl rfl) ?_
  refine wv (OV.extract 0 rfl rfl) ?_
  refine WL.nil ?_
  refine kg (hK_17' [(1, zI need), (6, zI 4), (15, Tr.val Tr.none), (17, zB false), (18, Value.agg [].toArray)] _ ?_)
  refine f0 rfl ?_
  refine a6 (fun _ hK_18' => ?_)
  refine a4 ?_
  refine wv (OV.assertNil rfl ad9 afa) ?_
  refine wv (OV.extract 1 rfl rfl) ?_
  refine wv (OV.extract 0 rfl rfl) ?_
  refine WL.nil ?_
  refine kg (hK_18' [(1, zI need), (6, zI 4), (15, Tr.val Tr.none), (20, zB false), (21, Value.agg (wl cs0).toArray)] _ ?_)
  refine f0 rfl ?_
  refine a6 (fun _ hK_19' => ?_)
  refine a4 ?_
  refine wv (OV.assertNil rfl aa5 ab9) ?_
  refine wv (OV.extract 1 rfl rfl) ?_
  refine wv (OV.extract 0 rfl rfl) ?_
  refine WL.nil ?_
  refine kg (hK_19' [(1, zI need), (6, zI 4), (15, Tr.val Tr.none), (26, zB false), (27, Value.agg [Tr.val Tr.none, Tr.val Tr.none].toArray)] _ ?_)
  refine f0 rfl ?_
  refine a6 (fun _ hK_20' => ?_)
  refine a4 ?_
  refine wv (OV.assertNil rfl ab8 adn) ?_
  refine wv (OV.extract 1 rfl rfl) ?_
  refine wv (OV.extract 0 rfl rfl) ?_
  refine WL.nil ?_
  refine kg (hK_20' [(1, zI need), (6, zI 4), (15, Tr.val Tr.none), (37, zB false), (38, Value.agg [Tr.val Tr.none, Tr.val Tr.none].toArray)] _ ?_)
  refine f0 rfl ?_
  refine a6 (fun _ hK_21' => ?_)
  refine a4 ?_
  refine wv (OV.assertNil rfl adg afk) ?_
  refine wv (OV.extract 1 rfl rfl) ?_
  refine wv (OV.extract 0 rfl rfl) ?_
  refine WL.nil ?_
  refine kg (hK_21' [(1, zI need), (6, zI 4), (15, Tr.val Tr.none), (48, zB false), (49, Value.agg [Tr.val Tr.none, Tr.val Tr.none].toArray)] _ ?_)
  refine f0 rfl ?_
  refine a6 (fun _ hK_22' => ?_)
  refine a4 ?_
  refine wv (OV.assertNil rfl aca adf) ?_
  refine wv (OV.extract 1 rfl rfl) ?_
  refine wv (OV.extract 0 rfl rfl) ?_
  refine WL.nil ?_
  refine kg (hK_22' [(1, zI need), (6, zI 4), (15, Tr.val Tr.none), (59, zB false), (60, Value.agg [Tr.val Tr.none, Tr.val Tr.none].toArray)] _ ?_)
  refine f0 rfl ?_
  refine a6 (fun _ hK_23' => ?_)
  refine a4 ?_
  refine wv (OV.assertNil rfl ag2 aoe) ?_
  refine wv (OV.extract 1 rfl rfl) ?_
  refine wv (OV.extract 0 rfl rfl) ?_
  refine WL.nil ?_
  refine kg (hK_23' [(1, zI need), (6, zI 4), (15, Tr.val Tr.none), (69, zB false), (70, Value.agg [Tr.val Tr.none].toArray)] _ ?_)
  refine f0 rfl ?_
  refine a6 (fun _ hK_24' => ?_)
  refine a4 ?_
  refine wa ?_
  refine WL.nil ?_
  refine kg (hK_24' [(1, zI need), (6, zI 4)] _ ?_)
  refine a4 ?_
  refine wa ?_
  refine WL.nil ?_
  exact kh (hK_11' () h) []
def ank (need : Int) (K : (List UInt8) → Prop) : Prop :=
 ∃ (J0 : Prop),
  (∀ (_ : Unit), J0 →
   (if (decide (4 < need)) = true then
    (([40] : List UInt8).length + ([40, 41] : List UInt8).length ≤ 9223372036854775807) ∧
    ((([40] : List UInt8) ++ ([40, 41] : List UInt8)).length + ([41] : List UInt8).length ≤ 9223372036854775807) ∧
    K ((([40] : List UInt8) ++ ([40, 41] : List UInt8)) ++ ([41] : List UInt8))
   else
    K ([40, 41] : List UInt8))) ∧
  J0
theorem atb (te : TypeId) (fre : Nat × Nat) (need : Int) (K : (List UInt8) → Prop) (h : ank need K) :
  d5 Tryd.prog 13 [Tr.val .eps, zI need] [(0, .cells [zU 110, zU 10, zU 114, zU 13, zU 116, zU 9].toArray te fre)] [] (fun o => (∃ (v : List UInt8), K v ∧ o = .ret (st v) []) ∨ (False)) := by
 unfold ank at h
 refine c8 (n := 82) (L0 := [(0, Tr.val .eps), (1, zI need)]) Tryd.func13 rfl rfl rfl rfl (fun w0 M Q hE => ?_)
 refine a6 (fun _ hK => ?_)
 refine a4 ?_
 refine wa ?_
 refine WL.nil ?_
 refine kg (hK [(0, Tr.val .eps), (1, zI need)] _ ?_)
 refine a6 (fun _ hK_1' => ?_)
 refine a4 ?_
 refine wa ?_
 refine wa ?_
 refine WL.nil ?_
 refine kg (hK_1' [(0, Tr.val .eps), (1, zI need), (6, zI 4)] _ ?_)
 obtain ⟨J0, hJ, h⟩ := h
 refine n5 (X := Unit) (fun _ => J0) (fun _ => [(1, zI need), (5, st ([40, 41] : List UInt8)), (6, zI 4)]) (fun _ => []) ?_ (fun K0_5' hK_5' => ?_)
 ·rintro _ hj
  replace h := hJ () hj
  show WC _ _ _ _ [(1, zI need), (5, st ([40, 41] : List UInt8)), (6, zI 4)] []
  refine a6 (fun _ hK_6' => ?_)
  refine a6 (fun _ hK_7' => ?_)
  refine a4 ?_
  refine wm ?_
  refine wm ?_
  refine wv (OV.lss rfl rfl) ?_
  refine WL.nil ?_
  refine kg (hK_7' [(5, st ([40, 41] : List UInt8)), (77, zB (decide (4 < need)))] _ ?_)
  refine b6 (b := decide (4 < need)) rfl (fun hb => ?_) (fun hb => ?_)
  ·replace h := j4 h hb
   refine a6 (fun _ hK_8' => ?_)
   refine a4 ?_
   refine wm ?_
   obtain ⟨o, h⟩ := h
   refine wv (OV.cat rfl rfl o) ?_
   obtain ⟨o_1', h⟩ := h
   refine wv (OV.cat rfl rfl o_1') ?_
   refine wa ?_
   refine WL.nil ?_
   refine kg (hK_8' [(4, st ((([40] : List UInt8) ++ ([40, 41] : List UInt8)) ++ ([41] : List UInt8)))] _ ?_)
   refine c9 ?_
   exact hE.ret [] rfl rfl (.inl ⟨_, h, rfl⟩) (f9.of1 rfl (RV.tmp rfl))
  ·replace h := j5 h hb
   refine b7 ?_
   refine kg (hK_6' [(5, st ([40, 41] : List UInt8))] _ ?_)
   refine a6 (fun _ hK_9' => ?_)
   refine a4 ?_
   refine wm ?_
   refine wa ?_
   refine WL.nil ?_
   refine kg (hK_9' [(4, st ([40, 41] : List UInt8))] _ ?_)
   refine c9 ?_
   exact hE.ret [] rfl rfl (.inl ⟨_, h, rfl⟩) (f9.of1 rfl (RV.tmp rfl))
 ·skip
  refine a6 (fun _ hK_10' => ?_)
  refine a4 ?_
  refine wm ?_
  refine WL.nil ?_
  refine kg (hK_10' [(1, zI need), (6, zI 4), (15, Tr.val .eps)] _ ?_)
  refine d6 ?_
  refine a6 (fun _ hK_11' => ?_)
  refine a4 ?_
  refine wv (OV.assertYes (t' := 78) (v := Value.agg [].toArray) rfl adk) ?_
  refine wv (OV.extract 1 rfl rfl) ?_
  refine wv (OV.extract 0 rfl rfl) ?_
  refine WL.nil ?_
  refine kg (hK_11' [(1, zI need), (6, zI 4), (15, Tr.val .eps), (17, zB true), (18, Value.agg [].toArray)] _ ?_)
  refine w5 rfl ?_
  refine a6 (fun _ hK_12' => ?_)
  refine a4 ?_
  refine WL.make (MV.alloc at1) rfl rfl rfl (fun b_1' => ?_)
  refine WL.store (vs := []) (cs' := []) 0 rfl rfl rfl rfl aur (Nat.le_of_ble_eq_true rfl) rfl rfl rfl ?_
  refine WL.nil ?_
  refine kg (hK_12' [(1, zI need), (6, zI 4)] _ ?_)
  refine a4 ?_
  refine wa ?_
  refine WL.nil ?_
  exact kh (hK_5' () h) []
def al4 (xs : CS) (need : Int) (K : (List UInt8) → Prop) : Prop :=
 ∃ (J0 : Prop),
  (∀ (_ : Unit), J0 →
   (if (decide (4 < need)) = true then
    (([40] : List UInt8).length + (aaf xs).length ≤ 9223372036854775807) ∧
    ((([40] : List UInt8) ++ (aaf xs)).length + ([41] : List UInt8).length ≤ 9223372036854775807) ∧
    K ((([40] : List UInt8) ++ (aaf xs)) ++ ([41] : List UInt8))
   else
    K (aaf xs))) ∧
  J0
theorem au0 (te : TypeId) (fre : Nat × Nat) (xs : CS) (need : Int) (K : (List UInt8) → Prop) (h : al4 xs need K) :
  d5 Tryd.prog 13 [Tr.val (.cls xs), zI need] [(0, .cells [zU 110, zU 10, zU 114, zU 13, zU 116, zU 9].toArray te fre)] [] (fun o => (∃ (v : List UInt8), K v ∧ o = .ret (st v) []) ∨ (False)) := by
 unfold al4 at h
 refine c8 (n := 82) (L0 := [(0, Tr.val (.cls xs)), (1, zI need)]) Tryd.func13 rfl rfl rfl rfl (fun w0 M Q hE => ?_)
 refine a6 (fun _ hK => ?_)
 refine a4 ?_
 refine wa ?_
 refine WL.nil ?_
 refine kg (hK [(0, Tr.val (.cls xs)), (1, zI need)] _ ?_)
 refine a6 (fun _ hK_1' => ?_)
 refine a4 ?_
 refine wa ?_
 refine wa ?_
 refine WL.nil ?_
 refine kg (hK_1' [(0, Tr.val (.cls xs)), (1, zI need), (6, zI 4)] _ ?_)
 obtain ⟨J0, hJ, h⟩ := h
 refine n5 (X := Unit) (fun _ => J0) (fun _ => [(1, zI need), (5, st (aaf xs)), (6, zI 4)]) (fun _ => []) ?_ (fun K0_6' hK_6' => ?_)
 ·rintro _ hj
  replace h := hJ () hj
  show WC _ _ _ _ [(1, zI need), (5, st (aaf xs)), (6, zI 4)] []
  refine a6 (fun _ hK_7' => ?_)
  refine a6 (fun _ hK_8' => ?_)
  refine a4 ?_
  refine wm ?_
  refine wm ?_
  refine wv (OV.lss rfl rfl) ?_
  refine WL.nil ?_
  refine kg (hK_8' [(5, st (aaf xs)), (77, zB (decide (4 < need)))] _ ?_)
  refine b6 (b := decide (4 < need)) rfl (fun hb => ?_) (fun hb => ?_)
  ·replace h := j4 h hb
   refine a6 (fun _ hK_9' => ?_)
   refine a4 ?_
   refine wm ?_
   obtain ⟨o, h⟩ := h
   refine wv (OV.cat rfl rfl o) ?_
   obtain ⟨o_1', h⟩ := h
   refine wv (OV.cat rfl rfl o_1') ?_
   refine wa ?_
   refine WL.nil ?_
   refine kg (hK_9' [(4, st ((([40] : List UInt8) ++ (aaf xs)) ++ ([41] : List UInt8)))] _ ?_)
   refine c9 ?_
   exact hE.ret [] rfl rfl (.inl ⟨_, h, rfl⟩) (f9.of1 rfl (RV.tmp rfl))
  ·replace h := j5 h hb
   refine b7 ?_
   refine kg (hK_7' [(5, st (aaf xs))] _ ?_)
   refine a6 (fun _ hK_10' => ?_)
   refine a4 ?_
   refine wm ?_
   refine wa ?_
   refine WL.nil ?_
   refine kg (hK_10' [(4, st (aaf xs))] _ ?_)
   refine c9 ?_
   exact hE.ret [] rfl rfl (.inl ⟨_, h, rfl⟩) (f9.of1 rfl (RV.tmp rfl))
 ·skip
  refine a6 (fun _ hK_11' => ?_)
  refine a4 ?_
  refine wm ?_
  refine WL.nil ?_
  refine kg (hK_11' [(1, zI need), (6, zI 4), (15, Tr.val (.cls xs))] _ ?_)
  refine d6 ?_
  refine a6 (fun _ hK_12' => ?_)
  refine a4 ?_
  refine wv (OV.assertNo (t2 := 83) (v := Value.agg (wl xs).toArray) rfl adk aeg rfl) ?_
  refine wv (OV.extract 1 rfl rfl) ?_
  refine wv (OV.extract 0 rfl rfl) ?_
  refine WL.nil ?_
  refine kg (hK_12' [(1, zI need), (6, zI 4), (15, Tr.val (.cls xs)), (17, zB false), (18, Value.agg [].toArray)] _ ?_)
  refine f0 rfl ?_
  refine a6 (fun _ hK_13' => ?_)
  refine a4 ?_
  refine wv (OV.assertYes (t' := 83) (v := Value.agg (wl xs).toArray) rfl ad9) ?_
  refine wv (OV.extract 1 rfl rfl) ?_
  refine wv (OV.extract 0 rfl rfl) ?_
  refine WL.nil ?_
  refine kg (hK_13' [(1, zI need), (6, zI 4), (15, Tr.val (.cls xs)), (20, zB true), (21, Value.agg (wl xs).toArray)] _ ?_)
  refine w5 rfl ?_
  refine a6 (fun _ hK_14' => ?_)
  refine a4 ?_
  refine WL.make (MV.alloc ata) rfl rfl rfl (fun b_1' => ?_)
  refine WL.storeW (vs := wl xs) 0 rfl rfl rfl rfl rfl atl rfl rfl rfl ?_
  refine WL.nil ?_
  refine kg (hK_14' [(1, zI need), (6, zI 4), (8, zP b_1')] _ ?_)
  refine a4 ?_
  refine wv (OV.fieldAddr0 rfl aop) ?_
  refine wv (OV.loadR rfl (At.own 0 rfl) y5) ?_
  refine WL.call (A := []) av4 rfl (d5.ofPureE te fre (av8 xs)) rfl ⟨.inr (List.mem_of_getElem? (i := 0) rfl), trivial⟩ rfl rfl ?_
  refine wa ?_
  refine WL.nil ?_
  exact kh (hK_6' () h) []
def ana (te : TypeId) (fre : Nat × Nat) (xa : Tr) (xb : Tr) (need : Int) (K : (List UInt8) → Prop) : Prop :=
 ∃ (J0 : Prop),
  (∀ (_ : Unit), J0 →
   (if (decide (2 < need)) = true then
    (([40] : List UInt8).length + ((a7 xa 2) ++ (a7 xb 3)).length ≤ 9223372036854775807) ∧
    ((([40] : List UInt8) ++ ((a7 xa 2) ++ (a7 xb 3))).length + ([41] : List UInt8).length ≤ 9223372036854775807) ∧
    K ((([40] : List UInt8) ++ ((a7 xa 2) ++ (a7 xb 3))) ++ ([41] : List UInt8))
   else
    K ((a7 xa 2) ++ (a7 xb 3)))) ∧
  (d5 Tryd.prog 13 [Tr.val xa, zI 2] (z8 te fre) [] (Ret (st (a7 xa 2)) [])) ∧
  (d5 Tryd.prog 13 [Tr.val xb, zI 3] (z8 te fre) [] (Ret (st (a7 xb 3)) [])) ∧
  ((a7 xa 2).length + (a7 xb 3).length ≤ 9223372036854775807) ∧
  J0
theorem atg (te : TypeId) (fre : Nat × Nat) (xa : Tr) (xb : Tr) (need : Int) (K : (List UInt8) → Prop) (h : ana te fre xa xb need K) :
  d5 Tryd.prog 13 [Tr.val (.cat xa xb), zI need] [(0, .cells [zU 110, zU 10, zU 114, zU 13, zU 116, zU 9].toArray te fre)] [] (fun o => (∃ (v : List UInt8), K v ∧ o = .ret (st v) []) ∨ (False)) := by
 unfold ana at h
 refine c8 (n := 82) (L0 := [(0, Tr.val (.cat xa xb)), (1, zI need)]) Tryd.func13 rfl rfl rfl rfl (fun w0 M Q hE => ?_)
 refine a6 (fun _ hK => ?_)
 refine a4 ?_
 refine wa ?_
 refine WL.nil ?_
 refine kg (hK [(0, Tr.val (.cat xa xb)), (1, zI need)] _ ?_)
 refine a6 (fun _ hK_1' => ?_)
 refine a4 ?_
 refine wa ?_
 refine wa ?_
 refine WL.nil ?_
 refine kg (hK_1' [(0, Tr.val (.cat xa xb)), (1, zI need), (6, zI 4)] _ ?_)
 obtain ⟨J0, hJ, h⟩ := h
 refine n5 (X := Unit) (fun _ => J0) (fun _ => [(1, zI need), (5, st ((a7 xa 2) ++ (a7 xb 3))), (6, zI 2)]) (fun _ => []) ?_ (fun K0_10' hK_10' => ?_)
 ·rintro _ hj
  replace h := hJ () hj
  show WC _ _ _ _ [(1, zI need), (5, st ((a7 xa 2) ++ (a7 xb 3))), (6, zI 2)] []
  refine a6 (fun _ hK_11' => ?_)
  refine a6 (fun _ hK_12' => ?_)
  refine a4 ?_
  refine wm ?_
  refine wm ?_
  refine wv (OV.lss rfl rfl) ?_
  refine WL.nil ?_
  refine kg (hK_12' [(5, st ((a7 xa 2) ++ (a7 xb 3))), (77, zB (decide (2 < need)))] _ ?_)
  refine b6 (b := decide (2 < need)) rfl (fun hb => ?_) (fun hb => ?_)
  ·replace h := j4 h hb
   refine a6 (fun _ hK_13' => ?_)
   refine a4 ?_
   refine wm ?_
   obtain ⟨o_3', h⟩ := h
   refine wv (OV.cat rfl rfl o_3') ?_
   obtain ⟨o_4', h⟩ := h
   refine wv (OV.cat rfl rfl o_4') ?_
   refine wa ?_
   refine WL.nil ?_
   refine kg (hK_13' [(4, st ((([40] : List UInt8) ++ ((a7 xa 2) ++ (a7 xb 3))) ++ ([41] : List UInt8)))] _ ?_)
   refine c9 ?_
   exact hE.ret [] rfl rfl (.inl ⟨_, h, rfl⟩) (f9.of1 rfl (RV.tmp rfl))
  ·replace h := j5 h hb
   refine b7 ?_
   refine kg (hK_11' [(5, st ((a7 xa 2) ++ (a7 xb 3)))] _ ?_)
   refine a6 (fun _ hK_14' => ?_)
   refine a4 ?_
   refine wm ?_
   refine wa ?_
   refine WL.nil ?_
   refine kg (hK_14' [(4, st ((a7 xa 2) ++ (a7 xb 3)))] _ ?_)
   refine c9 ?_
   exact hE.ret [] rfl rfl (.inl ⟨_, h, rfl⟩) (f9.of1 rfl (RV.tmp rfl))
 ·skip
  refine a6 (fun _ hK_15' => ?_)
  refine a4 ?_
  refine wm ?_
  refine WL.nil ?_
  refine kg (hK_15' [(1, zI need), (6, zI 4), (15, Tr.val (.cat xa xb))] _ ?_)
  refine d6 ?_
  refine a6 (fun _ hK_16' => ?_)
  refine a4 ?_
  refine wv (OV.assertNo (t2 := 89) (v := Value.agg [Tr.val xa, Tr.val xb].toArray) rfl adk aeg rfl) ?_
  refine wv (OV.extract 1 rfl rfl) ?_
  refine wv (OV.extract 0 rfl rfl) ?_
  refine WL.nil ?_
  refine kg (hK_16' [(1, zI need), (6, zI 4), (15, Tr.val (.cat xa xb)), (17, zB false), (18, Value.agg [].toArray)] _ ?_)
  refine f0 rfl ?_
  refine a6 (fun _ hK_17' => ?_)
  refine a4 ?_
  refine wv (OV.assertNo (t2 := 89) (v := Value.agg [Tr.val xa, Tr.val xb].toArray) rfl ad9 afa rfl) ?_
  refine wv (OV.extract 1 rfl rfl) ?_
  refine wv (OV.extract 0 rfl rfl) ?_
  refine WL.nil ?_
  refine kg (hK_17' [(1, zI need), (6, zI 4), (15, Tr.val (.cat xa xb)), (20, zB false), (21, Value.agg (wl cs0).toArray)] _ ?_)
  refine f0 rfl ?_
  refine a6 (fun _ hK_18' => ?_)
  refine a4 ?_
  refine wv (OV.assertNo (t2 := 89) (v := Value.agg [Tr.val xa, Tr.val xb].toArray) rfl aa5 ab9 rfl) ?_
  refine wv (OV.extract 1 rfl rfl) ?_
  refine wv (OV.extract 0 rfl rfl) ?_
  refine WL.nil ?_
  refine kg (hK_18' [(1, zI need), (6, zI 4), (15, Tr.val (.cat xa xb)), (26, zB false), (27, Value.agg [Tr.val Tr.none, Tr.val Tr.none].toArray)] _ ?_)
  refine f0 rfl ?_
  refine a6 (fun _ hK_19' => ?_)
  refine a4 ?_
  refine wv (OV.assertNo (t2 := 89) (v := Value.agg [Tr.val xa, Tr.val xb].toArray) rfl ab8 adn rfl) ?_
  refine wv (OV.extract 1 rfl rfl) ?_
  refine wv (OV.extract 0 rfl rfl) ?_
  refine WL.nil ?_
  refine kg (hK_19' [(1, zI need), (6, zI 4), (15, Tr.val (.cat xa xb)), (37, zB false), (38, Value.agg [Tr.val Tr.none, Tr.val Tr.none].toArray)] _ ?_)
  refine f0 rfl ?_
  refine a6 (fun _ hK_20' => ?_)
  refine a4 ?_
  refine wv (OV.assertNo (t2 := 89) (v := Value.agg [Tr.val xa, Tr.val xb].toArray) rfl adg afk rfl) ?_
  refine wv (OV.extract 1 rfl rfl) ?_
  refine wv (OV.extract 0 rfl rfl) ?_
  refine WL.nil ?_
  refine kg (hK_20' [(1, zI need), (6, zI 4), (15, Tr.val (.cat xa xb)), (48, zB false), (49, Value.agg [Tr.val Tr.none, Tr.val Tr.none].toArray)] _ ?_)
  refine f0 rfl ?_
  refine a6 (fun _ hK_21' => ?_)
  refine a4 ?_
  refine wv (OV.assertYes (t' := 89) (v := Value.agg [Tr.val xa, Tr.val xb].toArray) rfl aca) ?_
  refine wv (OV.extract 1 rfl rfl) ?_
  refine wv (OV.extract 0 rfl rfl) ?_
  refine WL.nil ?_
  refine kg (hK_21' [(1, zI need), (6, zI 4), (15, Tr.val (.cat xa xb)), (59, zB true), (60, Value.agg [Tr.val xa, Tr.val xb].toArray)] _ ?_)
  refine w5 rfl ?_
  refine a6 (fun _ hK_22' => ?_)
  refine a4 ?_
  refine WL.make (MV.alloc amx) rfl rfl rfl (fun b_1' => ?_)
  refine WL.storeW (vs := [Tr.val xa, Tr.val xb]) 0 rfl rfl rfl rfl rfl am0 rfl (d4 (Tr.val_one _) (d4 (Tr.val_one _) m6)) rfl ?_
  refine WL.nil ?_
  refine kg (hK_22' [(1, zI need), (12, zP b_1')] _ ?_)
  refine q9 5 [] g8 (by kernel_rfl) rfl (fun T_1' hT_1' => ?_)
  refine fv (fun _ => OV.fieldAddr0 rfl ae0) ?_
  refine fv (fun _ => OV.load rfl (At.own 0 rfl) rfl m4) ?_
  obtain ⟨o_5', h⟩ := h
  refine FL.call aba (fun _ => rfl) (o_5') ⟨.inr (List.mem_of_getElem? (i := 0) rfl), trivial⟩ rfl (fun _ => rfl) rfl ?_
  refine fv (fun _ => OV.fieldAddr0 rfl ae5) ?_
  refine fv (fun _ => OV.load rfl (At.own 0 rfl) rfl m4) ?_
  refine FL.weak (L' := fun γ => [(1, zI need), (63, st (a7 xa 2)), (65, Tr.val xb)]) (fun γ => ⟨rfl, rfl, rfl, trivial⟩) (FL.nil (hT_1' (fun γ => [(1, zI need), (63, st (a7 xa 2)), (65, Tr.val xb)]) (fun γ => ?_)))
  obtain ⟨o_6', h⟩ := h
  refine WL.call (A := []) aba rfl (o_6') rfl ⟨.inr (List.mem_of_getElem? (i := 0) rfl), trivial⟩ rfl rfl ?_
  obtain ⟨o_7', h⟩ := h
  refine wv (OV.cat rfl rfl o_7') ?_
  refine wa ?_
  refine wa ?_
  refine WL.nil ?_
  exact kh (hK_10' () h) []
def ans (te : TypeId) (fre : Nat × Nat) (xa : Tr) (xb : Tr) (need : Int) (K : (List UInt8) → Prop) : Prop :=
 ∃ (J0 : Prop),
  (∀ (_ : Unit), J0 →
   (if (decide (0 < need)) = true then
    (([40] : List UInt8).length + (((a7 xa 0) ++ ([124] : List UInt8)) ++ (a7 xb 1)).length ≤ 9223372036854775807) ∧
    ((([40] : List UInt8) ++ (((a7 xa 0) ++ ([124] : List UInt8)) ++ (a7 xb 1))).length + ([41] : List UInt8).length ≤ 9223372036854775807) ∧
    K ((([40] : List UInt8) ++ (((a7 xa 0) ++ ([124] : List UInt8)) ++ (a7 xb 1))) ++ ([41] : List UInt8))
   else
    K (((a7 xa 0) ++ ([124] : List UInt8)) ++ (a7 xb 1)))) ∧
  (d5 Tryd.prog 13 [Tr.val xa, zI 0] (z8 te fre) [] (Ret (st (a7 xa 0)) [])) ∧
  ((a7 xa 0).length + ([124] : List UInt8).length ≤ 9223372036854775807) ∧
  (d5 Tryd.prog 13 [Tr.val xb, zI 1] (z8 te fre) [] (Ret (st (a7 xb 1)) [])) ∧
  (((a7 xa 0) ++ ([124] : List UInt8)).length + (a7 xb 1).length ≤ 9223372036854775807) ∧
  J0
theorem atp (te : TypeId) (fre : Nat × Nat) (xa : Tr) (xb : Tr) (need : Int) (K : (List UInt8) → Prop) (h : ans te fre xa xb need K) :
  d5 Tryd.prog 13 [Tr.val (.alt xa xb), zI need] [(0, .cells [zU 110, zU 10, zU 114, zU 13, zU 116, zU 9].toArray te fre)] [] (fun o => (∃ (v : List UInt8), K v ∧ o = .ret (st v) []) ∨ (False)) := by
 unfold ans at h
 refine c8 (n := 82) (L0 := [(0, Tr.val (.alt xa xb)), (1, zI need)]) Tryd.func13 rfl rfl rfl rfl (fun w0 M Q hE => ?_)
 refine a6 (fun _ hK => ?_)
 refine a4 ?_
 refine wa ?_
 refine WL.nil ?_
 refine kg (hK [(0, Tr.val (.alt xa xb)), (1, zI need)] _ ?_)
 refine a6 (fun _ hK_1' => ?_)
 refine a4 ?_
 refine wa ?_
 refine wa ?_
 refine WL.nil ?_
 refine kg (hK_1' [(0, Tr.val (.alt xa xb)), (1, zI need), (6, zI 4)] _ ?_)
 obtain ⟨J0, hJ, h⟩ := h
 refine n5 (X := Unit) (fun _ => J0) (fun _ => [(1, zI need), (5, st (((a7 xa 0) ++ ([124] : List UInt8)) ++ (a7 xb 1))), (6, zI 0)]) (fun _ => []) ?_ (fun K0_7' hK_7' => ?_)
 ·rintro _ hj
  replace h := hJ () hj
  show WC _ _ _ _ [(1, zI need), (5, st (((a7 xa 0) ++ ([124] : List UInt8)) ++ (a7 xb 1))), (6, zI 0)] []
  refine a6 (fun _ hK_8' => ?_)
  refine a6 (fun _ hK_9' => ?_)
  refine a4 ?_
  refine wm ?_
  refine wm ?_
  refine wv (OV.lss rfl rfl) ?_
  refine WL.nil ?_
  refine kg (hK_9' [(5, st (((a7 xa 0) ++ ([124] : List UInt8)) ++ (a7 xb 1))), (77, zB (decide (0 < need)))] _ ?_)
  refine b6 (b := decide (0 < need)) rfl (fun hb => ?_) (fun hb => ?_)
  ·replace h := j4 h hb
   refine a6 (fun _ hK_10' => ?_)
   refine a4 ?_
   refine wm ?_
   obtain ⟨o_4', h⟩ := h
   refine wv (OV.cat rfl rfl o_4') ?_
   obtain ⟨o_5', h⟩ := h
   refine wv (OV.cat rfl rfl o_5') ?_
   refine wa ?_
   refine WL.nil ?_
   refine kg (hK_10' [(4, st ((([40] : List UInt8) ++ (((a7 xa 0) ++ ([124] : List UInt8)) ++ (a7 xb 1))) ++ ([41] : List UInt8)))] _ ?_)
   refine c9 ?_
   exact hE.ret [] rfl rfl (.inl ⟨_, h, rfl⟩) (f9.of1 rfl (RV.tmp rfl))
  ·replace h := j5 h hb
   refine b7 ?_
   refine kg (hK_8' [(5, st (((a7 xa 0) ++ ([124] : List UInt8)) ++ (a7 xb 1)))] _ ?_)
   refine a6 (fun _ hK_11' => ?_)
   refine a4 ?_
   refine wm ?_
   refine wa ?_
   refine WL.nil ?_
   refine kg (hK_11' [(4, st (((a7 xa 0) ++ ([124] : List UInt8)) ++ (a7 xb 1)))] _ ?_)
   refine c9 ?_
   exact hE.ret [] rfl rfl (.inl ⟨_, h, rfl⟩) (f9.of1 rfl (RV.tmp rfl))
 ·skip
  refine a6 (fun _ hK_12' => ?_)
  refine a4 ?_
  refine wm ?_
  refine WL.nil ?_
  refine kg (hK_12' [(1, zI need), (6, zI 4), (15, Tr.val (.alt xa xb))] _ ?_)
  refine d6 ?_
  refine a6 (fun _ hK_13' => ?_)
  refine a4 ?_
  refine wv (OV.assertNo (t2 := 86) (v := Value.agg [Tr.val xa, Tr.val xb].toArray) rfl adk aeg rfl) ?_
  refine wv (OV.extract 1 rfl rfl) ?_
  refine wv (OV.extract 0 rfl rfl) ?_
  refine WL.nil ?_
  refine kg (hK_13' [(1, zI need), (6, zI 4), (15, Tr.val (.alt xa xb)), (17, zB false), (18, Value.agg [].toArray)] _ ?_)
  refine f0 rfl ?_
  refine a6 (fun _ hK_14' => ?_)
  refine a4 ?_
  refine wv (OV.assertNo (t2 := 86) (v := Value.agg [Tr.val xa, Tr.val xb].toArray) rfl ad9 afa rfl) ?_
  refine wv (OV.extract 1 rfl rfl) ?_
  refine wv (OV.extract 0 rfl rfl) ?_
  refine WL.nil ?_
  refine kg (hK_14' [(1, zI need), (6, zI 4), (15, Tr.val (.alt xa xb)), (20, zB false), (21, Value.agg (wl cs0).toArray)] _ ?_)
  refine f0 rfl ?_
  refine a6 (fun _ hK_15' => ?_)
  refine a4 ?_
  refine wv (OV.assertYes (t' := 86) (v := Value.agg [Tr.val xa, Tr.val xb].toArray) rfl aa5) ?_
  refine wv (OV.extract 1 rfl rfl) ?_
  refine wv (OV.extract 0 rfl rfl) ?_
  refine WL.nil ?_
  refine kg (hK_15' [(1, zI need), (6, zI 4), (15, Tr.val (.alt xa xb)), (26, zB true), (27, Value.agg [Tr.val xa, Tr.val xb].toArray)] _ ?_)
  refine w5 rfl ?_
  refine a6 (fun _ hK_16' => ?_)
  refine a4 ?_
  refine WL.make (MV.alloc al9) rfl rfl rfl (fun b_1' => ?_)
  refine WL.storeW (vs := [Tr.val xa, Tr.val xb]) 0 rfl rfl rfl rfl rfl anu rfl (d4 (Tr.val_one _) (d4 (Tr.val_one _) m6)) rfl ?_
  refine WL.nil ?_
  refine kg (hK_16' [(1, zI need), (9, zP b_1')] _ ?_)
  refine q9 7 [] g8 (by kernel_rfl) rfl (fun T_1' hT_1' => ?_)
  refine fv (fun _ => OV.fieldAddr0 rfl aeu) ?_
  refine fv (fun _ => OV.load rfl (At.own 0 rfl) rfl m4) ?_
  obtain ⟨o_6', h⟩ := h
  refine FL.call aba (fun _ => rfl) (o_6') ⟨.inr (List.mem_of_getElem? (i := 0) rfl), trivial⟩ rfl (fun _ => rfl) rfl ?_
  obtain ⟨o_7', h⟩ := h
  refine fv (fun _ => OV.cat rfl rfl o_7') ?_
  refine fv (fun _ => OV.fieldAddr0 rfl ae6) ?_
  refine fv (fun _ => OV.load rfl (At.own 0 rfl) rfl m4) ?_
  obtain ⟨o_8', h⟩ := h
  refine FL.call aba (fun _ => rfl) (o_8') ⟨.inr (List.mem_of_getElem? (i := 0) rfl), trivial⟩ rfl (fun _ => rfl) rfl ?_
  refine FL.weak (L' := fun γ => [(1, zI need), (31, st ((a7 xa 0) ++ ([124] : List UInt8))), (34, st (a7 xb 1))]) (fun γ => ⟨rfl, rfl, rfl, trivial⟩) (FL.nil (hT_1' (fun γ => [(1, zI need), (31, st ((a7 xa 0) ++ ([124] : List UInt8))), (34, st (a7 xb 1))]) (fun γ => ?_)))
  obtain ⟨o_9', h⟩ := h
  refine wv (OV.cat rfl rfl o_9') ?_
  refine wa ?_
  refine wa ?_
  refine WL.nil ?_
  exact kh (hK_7' () h) []
def ak9 (te : TypeId) (fre : Nat × Nat) (xa : Tr) (need : Int) (K : (List UInt8) → Prop) : Prop :=
 ∃ (J0 : Prop),
  (∀ (_ : Unit), J0 →
   (if (decide (3 < need)) = true then
    (([40] : List UInt8).length + ((a7 xa 3) ++ ([42] : List UInt8)).length ≤ 9223372036854775807) ∧
    ((([40] : List UInt8) ++ ((a7 xa 3) ++ ([42] : List UInt8))).length + ([41] : List UInt8).length ≤ 9223372036854775807) ∧
    K ((([40] : List UInt8) ++ ((a7 xa 3) ++ ([42] : List UInt8))) ++ ([41] : List UInt8))
   else
    K ((a7 xa 3) ++ ([42] : List UInt8)))) ∧
  (d5 Tryd.prog 13 [Tr.val xa, zI 3] (z8 te fre) [] (Ret (st (a7 xa 3)) [])) ∧
  ((a7 xa 3).length + ([42] : List UInt8).length ≤ 9223372036854775807) ∧
  J0
theorem arv (te : TypeId) (fre : Nat × Nat) (xa : Tr) (need : Int) (K : (List UInt8) → Prop) (h : ak9 te fre xa need K) :
  d5 Tryd.prog 13 [Tr.val (.star xa), zI need] [(0, .cells [zU 110, zU 10, zU 114, zU 13, zU 116, zU 9].toArray te fre)] [] (fun o => (∃ (v : List UInt8), K v ∧ o = .ret (st v) []) ∨ (False)) := by
 unfold ak9 at h
 refine c8 (n := 82) (L0 := [(0, Tr.val (.star xa)), (1, zI need)]) Tryd.func13 rfl rfl rfl rfl (fun w0 M Q hE => ?_)
 refine a6 (fun _ hK => ?_)
 refine a4 ?_
 refine wa ?_
 refine WL.nil ?_
 refine kg (hK [(0, Tr.val (.star xa)), (1, zI need)] _ ?_)
 refine a6 (fun _ hK_1' => ?_)
 refine a4 ?_
 refine wa ?_
 refine wa ?_
 refine WL.nil ?_
 refine kg (hK_1' [(0, Tr.val (.star xa)), (1, zI need), (6, zI 4)] _ ?_)
 obtain ⟨J0, hJ, h⟩ := h
 refine n5 (X := Unit) (fun _ => J0) (fun _ => [(1, zI need), (5, st ((a7 xa 3) ++ ([42] : List UInt8))), (6, zI 3)]) (fun _ => []) ?_ (fun K0_11' hK_11' => ?_)
 ·rintro _ hj
  replace h := hJ () hj
  show WC _ _ _ _ [(1, zI need), (5, st ((a7 xa 3) ++ ([42] : List UInt8))), (6, zI 3)] []
  refine a6 (fun _ hK_12' => ?_)
  refine a6 (fun _ hK_13' => ?_)
  refine a4 ?_
  refine wm ?_
  refine wm ?_
  refine wv (OV.lss rfl rfl) ?_
  refine WL.nil ?_
  refine kg (hK_13' [(5, st ((a7 xa 3) ++ ([42] : List UInt8))), (77, zB (decide (3 < need)))] _ ?_)
  refine b6 (b := decide (3 < need)) rfl (fun hb => ?_) (fun hb => ?_)
  ·replace h := j4 h hb
   refine a6 (fun _ hK_14' => ?_)
   refine a4 ?_
   refine wm ?_
   obtain ⟨o_2', h⟩ := h
   refine wv (OV.cat rfl rfl o_2') ?_
   obtain ⟨o_3', h⟩ := h
   refine wv (OV.cat rfl rfl o_3') ?_
   refine wa ?_
   refine WL.nil ?_
   refine kg (hK_14' [(4, st ((([40] : List UInt8) ++ ((a7 xa 3) ++ ([42] : List UInt8))) ++ ([41] : List UInt8)))] _ ?_)
   refine c9 ?_
   exact hE.ret [] rfl rfl (.inl ⟨_, h, rfl⟩) (f9.of1 rfl (RV.tmp rfl))
  ·replace h := j5 h hb
   refine b7 ?_
   refine kg (hK_12' [(5, st ((a7 xa 3) ++ ([42] : List UInt8)))] _ ?_)
   refine a6 (fun _ hK_15' => ?_)
   refine a4 ?_
   refine wm ?_
   refine wa ?_
   refine WL.nil ?_
   refine kg (hK_15' [(4, st ((a7 xa 3) ++ ([42] : List UInt8)))] _ ?_)
   refine c9 ?_
   exact hE.ret [] rfl rfl (.inl ⟨_, h, rfl⟩) (f9.of1 rfl (RV.tmp rfl))
 ·skip
  refine a6 (fun _ hK_16' => ?_)
  refine a4 ?_
  refine wm ?_
  refine WL.nil ?_
  refine kg (hK_16' [(1, zI need), (6, zI 4), (15, Tr.val (.star xa))] _ ?_)
  refine d6 ?_
  refine a6 (fun _ hK_17' => ?_)
  refine a4 ?_
  refine wv (OV.assertNo (t2 := 91) (v := Value.agg [Tr.val xa].toArray) rfl adk aeg rfl) ?_
  refine wv (OV.extract 1 rfl rfl) ?_
  refine wv (OV.extract 0 rfl rfl) ?_
  refine WL.nil ?_
  refine kg (hK_17' [(1, zI need), (6, zI 4), (15, Tr.val (.star xa)), (17, zB false), (18, Value.agg [].toArray)] _ ?_)
  refine f0 rfl ?_
  refine a6 (fun _ hK_18' => ?_)
  refine a4 ?_
  refine wv (OV.assertNo (t2 := 91) (v := Value.agg [Tr.val xa].toArray) rfl ad9 afa rfl) ?_
  refine wv (OV.extract 1 rfl rfl) ?_
  refine wv (OV.extract 0 rfl rfl) ?_
  refine WL.nil ?_
  refine kg (hK_18' [(1, zI need), (6, zI 4), (15, Tr.val (.star xa)), (20, zB false), (21, Value.agg (wl cs0).toArray)] _ ?_)
  refine f0 rfl ?_
  refine a6 (fun _ hK_19' => ?_)
  refine a4 ?_
  refine wv (OV.assertNo (t2 := 91) (v := Value.agg [Tr.val xa].toArray) rfl aa5 ab9 rfl) ?_
  refine wv (OV.extract 1 rfl rfl) ?_
  refine wv (OV.extract 0 rfl rfl) ?_
  refine WL.nil ?_
  refine kg (hK_19' [(1, zI need), (6, zI 4), (15, Tr.val (.star xa)), (26, zB false), (27, Value.agg [Tr.val Tr.none, Tr.val Tr.none].toArray)] _ ?_)
  refine f0 rfl ?_
  refine a6 (fun _ hK_20' => ?_)
  refine a4 ?_
  refine wv (OV.assertNo (t2 := 91) (v := Value.agg [Tr.val xa].toArray) rfl ab8 adn rfl) ?_
  refine wv (OV.extract 1 rfl rfl) ?_
  refine wv (OV.extract 0 rfl rfl) ?_
  refine WL.nil ?_
  refine kg (hK_20' [(1, zI need), (6, zI 4), (15, Tr.val (.star xa)), (37, zB false), (38, Value.agg [Tr.val Tr.none, Tr.val Tr.none].toArray)] _ ?_)
  refine f0 rfl ?_
  refine a6 (fun _ hK_21' => ?_)
  refine a4 ?_
  refine wv (OV.assertNo (t2 := 91) (v := Value.agg [Tr.val xa].toArray) rfl adg afk rfl) ?_
  refine wv (OV.extract 1 rfl rfl) ?_
  refine wv (OV.extract 0 rfl rfl) ?_
  refine WL.nil ?_
  refine kg (hK_21' [(1, zI need), (6, zI 4), (15, Tr.val (.star xa)), (48, zB false), (49, Value.agg [Tr.val Tr.none, Tr.val Tr.none].toArray)] _ ?_)
  refine f0 rfl ?_
  refine a6 (fun _ hK_22' => ?_)
  refine a4 ?_
  refine wv (OV.assertNo (t2 := 91) (v := Value.agg [Tr.val xa].toArray) rfl aca adf rfl) ?_
  refine wv (OV.extract 1 rfl rfl) ?_
  refine wv (OV.extract 0 rfl rfl) ?_
  refine WL.nil ?_
  refine kg (hK_22' [(1, zI need), (6, zI 4), (15, Tr.val (.star xa)), (59, zB false), (60, Value.agg [Tr.val Tr.none, Tr.val Tr.none].toArray)] _ ?_)
  refine f0 rfl ?_
  refine a6 (fun _ hK_23' => ?_)
  refine a4 ?_
  refine wv (OV.assertYes (t' := 91) (v := Value.agg [Tr.val xa].toArray) rfl ag2) ?_
  refine wv (OV.extract 1 rfl rfl) ?_
  refine wv (OV.extract 0 rfl rfl) ?_
  refine WL.nil ?_
  refine kg (hK_23' [(1, zI need), (6, zI 4), (15, Tr.val (.star xa)), (69, zB true), (70, Value.agg [Tr.val xa].toArray)] _ ?_)
  refine w5 rfl ?_
  refine a6 (fun _ hK_24' => ?_)
  refine a4 ?_
  refine WL.make (MV.alloc ane) rfl rfl rfl (fun b_1' => ?_)
  refine WL.store (vs := [Tr.val xa]) (cs' := [Tr.val xa]) 0 rfl rfl rfl rfl am3 (Nat.le_of_ble_eq_true rfl) (d4 (Tr.val_one _) m6) rfl rfl ?_
  refine WL.nil ?_
  refine kg (hK_24' [(1, zI need), (13, zP b_1')] _ ?_)
  refine a4 ?_
  refine wv (OV.fieldAddr0 rfl ahu) ?_
  refine wv (OV.load rfl (At.own 0 rfl) rfl m4) ?_
  obtain ⟨o_4', h⟩ := h
  refine WL.call (A := []) aba rfl (o_4') rfl ⟨.inr (List.mem_of_getElem? (i := 0) rfl), trivial⟩ rfl rfl ?_
  obtain ⟨o_5', h⟩ := h
  refine wv (OV.cat rfl rfl o_5') ?_
  refine wa ?_
  refine wa ?_
  refine WL.nil ?_
  exact kh (hK_11' () h) []
def amr (te : TypeId) (fre : Nat × Nat) (xa : Tr) (xb : Tr) (need : Int) (K : (List UInt8) → Prop) : Prop :=
 ∃ (J0 : Prop),
  (∀ (_ : Unit), J0 →
   (if (decide (1 < need)) = true then
    (([40] : List UInt8).length + (((a7 xa 1) ++ ([38] : List UInt8)) ++ (a7 xb 2)).length ≤ 9223372036854775807) ∧
    ((([40] : List UInt8) ++ (((a7 xa 1) ++ ([38] : List UInt8)) ++ (a7 xb 2))).length + ([41] : List UInt8).length ≤ 9223372036854775807) ∧
    K ((([40] : List UInt8) ++ (((a7 xa 1) ++ ([38] : List UInt8)) ++ (a7 xb 2))) ++ ([41] : List UInt8))
   else
    K (((a7 xa 1) ++ ([38] : List UInt8)) ++ (a7 xb 2)))) ∧
  (d5 Tryd.prog 13 [Tr.val xa, zI 1] (z8 te fre) [] (Ret (st (a7 xa 1)) [])) ∧
  ((a7 xa 1).length + ([38] : List UInt8).length ≤ 9223372036854775807) ∧
  (d5 Tryd.prog 13 [Tr.val xb, zI 2] (z8 te fre) [] (Ret (st (a7 xb 2)) [])) ∧
  (((a7 xa 1) ++ ([38] : List UInt8)).length + (a7 xb 2).length ≤ 9223372036854775807) ∧
  J0
theorem aua (te : TypeId) (fre : Nat × Nat) (xa : Tr) (xb : Tr) (need : Int) (K : (List UInt8) → Prop) (h : amr te fre xa xb need K) :
  d5 Tryd.prog 13 [Tr.val (.and xa xb), zI need] [(0, .cells [zU 110, zU 10, zU 114, zU 13, zU 116, zU 9].toArray te fre)] [] (fun o => (∃ (v : List UInt8), K v ∧ o = .ret (st v) []) ∨ (False)) := by
 unfold amr at h
 refine c8 (n := 82) (L0 := [(0, Tr.val (.and xa xb)), (1, zI need)]) Tryd.func13 rfl rfl rfl rfl (fun w0 M Q hE => ?_)
 refine a6 (fun _ hK => ?_)
 refine a4 ?_
 refine wa ?_
 refine WL.nil ?_
 refine kg (hK [(0, Tr.val (.and xa xb)), (1, zI need)] _ ?_)
 refine a6 (fun _ hK_1' => ?_)
 refine a4 ?_
 refine wa ?_
 refine wa ?_
 refine WL.nil ?_
 refine kg (hK_1' [(0, Tr.val (.and xa xb)), (1, zI need), (6, zI 4)] _ ?_)
 obtain ⟨J0, hJ, h⟩ := h
 refine n5 (X := Unit) (fun _ => J0) (fun _ => [(1, zI need), (5, st (((a7 xa 1) ++ ([38] : List UInt8)) ++ (a7 xb 2))), (6, zI 1)]) (fun _ => []) ?_ (fun K0_8' hK_8' => ?_)
 ·rintro _ hj
  replace h := hJ () hj
  show WC _ _ _ _ [(1, zI need), (5, st (((a7 xa 1) ++ ([38] : List UInt8)) ++ (a7 xb 2))), (6, zI 1)] []
  refine a6 (fun _ hK_9' => ?_)
  refine a6 (fun _ hK_10' => ?_)
  refine a4 ?_
  refine wm ?_
  refine wm ?_
  refine wv (OV.lss rfl rfl) ?_
  refine WL.nil ?_
  refine kg (hK_10' [(5, st (((a7 xa 1) ++ ([38] : List UInt8)) ++ (a7 xb 2))), (77, zB (decide (1 < need)))] _ ?_)
  refine b6 (b := decide (1 < need)) rfl (fun hb => ?_) (fun hb => ?_)
  ·replace h := j4 h hb
   refine a6 (fun _ hK_11' => ?_)
   refine a4 ?_
   refine wm ?_
   obtain ⟨o_4', h⟩ := h
   refine wv (OV.cat rfl rfl o_4') ?_
   obtain ⟨o_5', h⟩ := h
   refine wv (OV.cat rfl rfl o_5') ?_
   refine wa ?_
   refine WL.nil ?_
   refine kg (hK_11' [(4, st ((([40] : List UInt8) ++ (((a7 xa 1) ++ ([38] : List UInt8)) ++ (a7 xb 2))) ++ ([41] : List UInt8)))] _ ?_)
   refine c9 ?_
   exact hE.ret [] rfl rfl (.inl ⟨_, h, rfl⟩) (f9.of1 rfl (RV.tmp rfl))
  ·replace h := j5 h hb
   refine b7 ?_
   refine kg (hK_9' [(5, st (((a7 xa 1) ++ ([38] : List UInt8)) ++ (a7 xb 2)))] _ ?_)
   refine a6 (fun _ hK_12' => ?_)
   refine a4 ?_
   refine wm ?_
   refine wa ?_
   refine WL.nil ?_
   refine kg (hK_12' [(4, st (((a7 xa 1) ++ ([38] : List UInt8)) ++ (a7 xb 2)))] _ ?_)
   refine c9 ?_
   exact hE.ret [] rfl rfl (.inl ⟨_, h, rfl⟩) (f9.of1 rfl (RV.tmp rfl))
 ·skip
  refine a6 (fun _ hK_13' => ?_)
  refine a4 ?_
  refine wm ?_
  refine WL.nil ?_
  refine kg (hK_13' [(1, zI need), (6, zI 4), (15, Tr.val (.and xa xb))] _ ?_)
  refine d6 ?_
  refine a6 (fun _ hK_14' => ?_)
  refine a4 ?_
  refine wv (OV.assertNo (t2 := 87) (v := Value.agg [Tr.val xa, Tr.val xb].toArray) rfl adk aeg rfl) ?_
  refine wv (OV.extract 1 rfl rfl) ?_
  refine wv (OV.extract 0 rfl rfl) ?_
  refine WL.nil ?_
  refine kg (hK_14' [(1, zI need), (6, zI 4), (15, Tr.val (.and xa xb)), (17, zB false), (18, Value.agg [].toArray)] _ ?_)
  refine f0 rfl ?_
  refine a6 (fun _ hK_15' => ?_)
  refine a4 ?_
  refine wv (OV.assertNo (t2 := 87) (v := Value.agg [Tr.val xa, Tr.val xb].toArray) rfl ad9 afa rfl) ?_
  refine wv (OV.extract 1 rfl rfl) ?_
  refine wv (OV.extract 0 rfl rfl) ?_
  refine WL.nil ?_
  refine kg (hK_15' [(1, zI need), (6, zI 4), (15, Tr.val (.and xa xb)), (20, zB false), (21, Value.agg (wl cs0).toArray)] _ ?_)
  refine f0 rfl ?_
  refine a6 (fun _ hK_16' => ?_)
  refine a4 ?_
  refine wv (OV.assertNo (t2 := 87) (v := Value.agg [Tr.val xa, Tr.val xb].toArray) rfl aa5 ab9 rfl) ?_
  refine wv (OV.extract 1 rfl rfl) ?_
  refine wv (OV.extract 0 rfl rfl) ?_
  refine WL.nil ?_
  refine kg (hK_16' [(1, zI need), (6, zI 4), (15, Tr.val (.and xa xb)), (26, zB false), (27, Value.agg [Tr.val Tr.none, Tr.val Tr.none].toArray)] _ ?_)
  refine f0 rfl ?_
  refine a6 (fun _ hK_17' => ?_)
  refine a4 ?_
  refine wv (OV.assertYes (t' := 87) (v := Value.agg [Tr.val xa, Tr.val xb].toArray) rfl ab8) ?_
  refine wv (OV.extract 1 rfl rfl) ?_
  refine wv (OV.extract 0 rfl rfl) ?_
  refine WL.nil ?_
  refine kg (hK_17' [(1, zI need), (6, zI 4), (15, Tr.val (.and xa xb)), (37, zB true), (38, Value.agg [Tr.val xa, Tr.val xb].toArray)] _ ?_)
  refine w5 rfl ?_
  refine a6 (fun _ hK_18' => ?_)
  refine a4 ?_
  refine WL.make (MV.alloc amo) rfl rfl rfl (fun b_1' => ?_)
  refine WL.storeW (vs := [Tr.val xa, Tr.val xb]) 0 rfl rfl rfl rfl rfl am1 rfl (d4 (Tr.val_one _) (d4 (Tr.val_one _) m6)) rfl ?_
  refine WL.nil ?_
  refine kg (hK_18' [(1, zI need), (10, zP b_1')] _ ?_)
  refine q9 7 [] g8 (by kernel_rfl) rfl (fun T_1' hT_1' => ?_)
  refine fv (fun _ => OV.fieldAddr0 rfl aey) ?_
  refine fv (fun _ => OV.load rfl (At.own 0 rfl) rfl m4) ?_
  obtain ⟨o_6', h⟩ := h
  refine FL.call aba (fun _ => rfl) (o_6') ⟨.inr (List.mem_of_getElem? (i := 0) rfl), trivial⟩ rfl (fun _ => rfl) rfl ?_
  obtain ⟨o_7', h⟩ := h
  refine fv (fun _ => OV.cat rfl rfl o_7') ?_
  refine fv (fun _ => OV.fieldAddr0 rfl aew) ?_
  refine fv (fun _ => OV.load rfl (At.own 0 rfl) rfl m4) ?_
  obtain ⟨o_8', h⟩ := h
  refine FL.call aba (fun _ => rfl) (o_8') ⟨.inr (List.mem_of_getElem? (i := 0) rfl), trivial⟩ rfl (fun _ => rfl) rfl ?_
  refine FL.weak (L' := fun γ => [(1, zI need), (42, st ((a7 xa 1) ++ ([38] : List UInt8))), (45, st (a7 xb 2))]) (fun γ => ⟨rfl, rfl, rfl, trivial⟩) (FL.nil (hT_1' (fun γ => [(1, zI need), (42, st ((a7 xa 1) ++ ([38] : List UInt8))), (45, st (a7 xb 2))]) (fun γ => ?_)))
  obtain ⟨o_9', h⟩ := h
  refine wv (OV.cat rfl rfl o_9') ?_
  refine wa ?_
  refine wa ?_
  refine WL.nil ?_
  exact kh (hK_8' () h) []
def ajn (te : TypeId) (fre : Nat × Nat) (xa : Tr) (xb : Tr) (need : Int) (K : (List UInt8) → Prop) : Prop :=
 ∃ (J0 : Prop),
  (∀ (_ : Unit), J0 →
   (if (decide (1 < need)) = true then
    (([40] : List UInt8).length + (((a7 xa 1) ++ ([45] : List UInt8)) ++ (a7 xb 2)).length ≤ 9223372036854775807) ∧
    ((([40] : List UInt8) ++ (((a7 xa 1) ++ ([45] : List UInt8)) ++ (a7 xb 2))).length + ([41] : List UInt8).length ≤ 9223372036854775807) ∧
    K ((([40] : List UInt8) ++ (((a7 xa 1) ++ ([45] : List UInt8)) ++ (a7 xb 2))) ++ ([41] : List UInt8))
   else
    K (((a7 xa 1) ++ ([45] : List UInt8)) ++ (a7 xb 2)))) ∧
  (d5 Tryd.prog 13 [Tr.val xa, zI 1] (z8 te fre) [] (Ret (st (a7 xa 1)) [])) ∧
  ((a7 xa 1).length + ([45] : List UInt8).length ≤ 9223372036854775807) ∧
  (d5 Tryd.prog 13 [Tr.val xb, zI 2] (z8 te fre) [] (Ret (st (a7 xb 2)) [])) ∧
  (((a7 xa 1) ++ ([45] : List UInt8)).length + (a7 xb 2).length ≤ 9223372036854775807) ∧
  J0
theorem ap2 (te : TypeId) (fre : Nat × Nat) (xa : Tr) (xb : Tr) (need : Int) (K : (List UInt8) → Prop) (h : ajn te fre xa xb need K) :
  d5 Tryd.prog 13 [Tr.val (.minus xa xb), zI need] [(0, .cells [zU 110, zU 10, zU 114, zU 13, zU 116, zU 9].toArray te fre)] [] (fun o => (∃ (v : List UInt8), K v ∧ o = .ret (st v) []) ∨ (False)) := by
 unfold ajn at h
 refine c8 (n := 82) (L0 := [(0, Tr.val (.minus xa xb)), (1, zI need)]) Tryd.func13 rfl rfl rfl rfl (fun w0 M Q hE => ?_)
 refine a6 (fun _ hK => ?_)
 refine a4 ?_
 refine wa ?_
 refine WL.nil ?_
 refine kg (hK [(0, Tr.val (.minus xa xb)), (1, zI need)] _ ?_)
 refine a6 (fun _ hK_1' => ?_)
 refine a4 ?_
 refine wa ?_
 refine wa ?_
 refine WL.nil ?_
 refine kg (hK_1' [(0, Tr.val (.minus xa xb)), (1, zI need), (6, zI 4)] _ ?_)
 obtain ⟨J0, hJ, h⟩ := h
 refine n5 (X := Unit) (fun _ => J0) (fun _ => [(1, zI need), (5, st (((a7 xa 1) ++ ([45] : List UInt8)) ++ (a7 xb 2))), (6, zI 1)]) (fun _ => []) ?_ (fun K0_9' hK_9' => ?_)
 ·rintro _ hj
  replace h := hJ () hj
  show WC _ _ _ _ [(1, zI need), (5, st (((a7 xa 1) ++ ([45] : List UInt8)) ++ (a7 xb 2))), (6, zI 1)] []
  refine a6 (fun _ hK_10' => ?_)
  refine a6 (fun _ hK_11' => ?_)
  refine a4 ?_
  refine wm ?_
  refine wm ?_
  refine wv (OV.lss rfl rfl) ?_
  refine WL.nil ?_
  refine kg (hK_11' [(5, st (((a7 xa 1) ++ ([45] : List UInt8)) ++ (a7 xb 2))), (77, zB (decide (1 < need)))] _ ?_)
  refine b6 (b := decide (1 < need)) rfl (fun hb => ?_) (fun hb => ?_)
  ·replace h := j4 h hb
   refine a6 (fun _ hK_12' => ?_)
   refine a4 ?_
   refine wm ?_
   obtain ⟨o_4', h⟩ := h
   refine wv (OV.cat rfl rfl o_4') ?_
   obtain ⟨o_5', h⟩ := h
   refine wv (OV.cat rfl rfl o_5') ?_
   refine wa ?_
   refine WL.nil ?_
   refine kg (hK_12' [(4, st ((([40] : List UInt8) ++ (((a7 xa 1) ++ ([45] : List UInt8)) ++ (a7 xb 2))) ++ ([41] : List UInt8)))] _ ?_)
   refine c9 ?_
   exact hE.ret [] rfl rfl (.inl ⟨_, h, rfl⟩) (f9.of1 rfl (RV.tmp rfl))
  ·replace h := j5 h hb
   refine b7 ?_
   refine kg (hK_10' [(5, st (((a7 xa 1) ++ ([45] : List UInt8)) ++ (a7 xb 2)))] _ ?_)
   refine a6 (fun _ hK_13' => ?_)
   refine a4 ?_
   refine wm ?_
   refine wa ?_
   refine WL.nil ?_
   refine kg (hK_13' [(4, st (((a7 xa 1) ++ ([45] : List UInt8)) ++ (a7 xb 2)))] _ ?_)
   refine c9 ?_
   exact hE.ret [] rfl rfl (.inl ⟨_, h, rfl⟩) (f9.of1 rfl (RV.tmp rfl))
 ·skip
  refine a6 (fun _ hK_14' => ?_)
  refine a4 ?_
  refine wm ?_
  refine WL.nil ?_
  refine kg (hK_14' [(1, zI need), (6, zI 4), (15, Tr.val (.minus xa xb))] _ ?_)
  refine d6 ?_
  refine a6 (fun _ hK_15' => ?_)
  refine a4 ?_
  refine wv (OV.assertNo (t2 := 88) (v := Value.agg [Tr.val xa, Tr.val xb].toArray) rfl adk aeg rfl) ?_
  refine wv (OV.extract 1 rfl rfl) ?_
  refine wv (OV.extract 0 rfl rfl) ?_
  refine WL.nil ?_
  refine kg (hK_15' [(1, zI need), (6, zI 4), (15, Tr.val (.minus xa xb)), (17, zB false), (18, Value.agg [].toArray)] _ ?_)
  refine f0 rfl ?_
  refine a6 (fun _ hK_16' => ?_)
  refine a4 ?_
  refine wv (OV.assertNo (t2 := 88) (v := Value.agg [Tr.val xa, Tr.val xb].toArray) rfl ad9 afa rfl) ?_
  refine wv (OV.extract 1 rfl rfl) ?_
  refine wv (OV.extract 0 rfl rfl) ?_
  refine WL.nil ?_
  refine kg (hK_16' [(1, zI need), (6, zI 4), (15, Tr.val (.minus xa xb)), (20, zB false), (21, Value.agg (wl cs0).toArray)] _ ?_)
  refine f0 rfl ?_
  refine a6 (fun _ hK_17' => ?_)
  refine a4 ?_
  refine wv (OV.assertNo (t2 := 88) (v := Value.agg [Tr.val xa, Tr.val xb].toArray) rfl aa5 ab9 rfl) ?_
  refine wv (OV.extract 1 rfl rfl) ?_
  refine wv (OV.extract 0 rfl rfl) ?_
  refine WL.nil ?_
  refine kg (hK_17' [(1, zI need), (6, zI 4), (15, Tr.val (.minus xa xb)), (26, zB false), (27, Value.agg [Tr.val Tr.none, Tr.val Tr.none].toArray)] _ ?_)
  refine f0 rfl ?_
  refine a6 (fun _ hK_18' => ?_)
  refine a4 ?_
  refine wv (OV.assertNo (t2 := 88) (v := Value.agg [Tr.val xa, Tr.val xb].toArray) rfl ab8 adn rfl) ?_
  refine wv (OV.extract 1 rfl rfl) ?_
  refine wv (OV.extract 0 rfl rfl) ?_
  refine WL.nil ?_
  refine kg (hK_18' [(1, zI need), (6, zI 4), (15, Tr.val (.minus xa xb)), (37, zB false), (38, Value.agg [Tr.val Tr.none, Tr.val Tr.none].toArray)] _ ?_)
  refine f0 rfl ?_
  refine a6 (fun _ hK_19' => ?_)
  refine a4 ?_
  refine wv (OV.assertYes (t' := 88) (v := Value.agg [Tr.val xa, Tr.val xb].toArray) rfl adg) ?_
  refine wv (OV.extract 1 rfl rfl) ?_
  refine wv (OV.extract 0 rfl rfl) ?_
  refine WL.nil ?_
  refine kg (hK_19' [(1, zI need), (6, zI 4), (15, Tr.val (.minus xa xb)), (48, zB true), (49, Value.agg [Tr.val xa, Tr.val xb].toArray)] _ ?_)
  refine w5 rfl ?_
  refine a6 (fun _ hK_20' => ?_)
  refine a4 ?_
  refine WL.make (MV.alloc amh) rfl rfl rfl (fun b_1' => ?_)
  refine WL.storeW (vs := [Tr.val xa, Tr.val xb]) 0 rfl rfl rfl rfl rfl anj rfl (d4 (Tr.val_one _) (d4 (Tr.val_one _) m6)) rfl ?_
  refine WL.nil ?_
  refine kg (hK_20' [(1, zI need), (11, zP b_1')] _ ?_)
  refine q9 7 [] g8 (by kernel_rfl) rfl (fun T_1' hT_1' => ?_)
  refine fv (fun _ => OV.fieldAddr0 rfl ae2) ?_
  refine fv (fun _ => OV.load rfl (At.own 0 rfl) rfl m4) ?_
  obtain ⟨o_6', h⟩ := h
  refine FL.call aba (fun _ => rfl) (o_6') ⟨.inr (List.mem_of_getElem? (i := 0) rfl), trivial⟩ rfl (fun _ => rfl) rfl ?_
  obtain ⟨o_7', h⟩ := h
  refine fv (fun _ => OV.cat rfl rfl o_7') ?_
  refine fv (fun _ => OV.fieldAddr0 rfl ae1) ?_
  refine fv (fun _ => OV.load rfl (At.own 0 rfl) rfl m4) ?_
  obtain ⟨o_8', h⟩ := h
  refine FL.call aba (fun _ => rfl) (o_8') ⟨.inr (List.mem_of_getElem? (i := 0) rfl), trivial⟩ rfl (fun _ => rfl) rfl ?_
  refine FL.weak (L' := fun γ => [(1, zI need), (53, st ((a7 xa 1) ++ ([45] : List UInt8))), (56, st (a7 xb 2))]) (fun γ => ⟨rfl, rfl, rfl, trivial⟩) (FL.nil (hT_1' (fun γ => [(1, zI need), (53, st ((a7 xa 1) ++ ([45] : List UInt8))), (56, st (a7 xb 2))]) (fun γ => ?_)))
  obtain ⟨o_9', h⟩ := h
  refine wv (OV.cat rfl rfl o_9') ?_
  refine wa ?_
  refine wa ?_
  refine WL.nil ?_
  exact kh (hK_9' () h) []
theorem awq (a b : Tr) (h : a.high ≤ 4000) : d5 Tryd.prog 7 [a.val, b.val] [] [] (Ret (.bool (decide (a.whole = b.whole))) []) :=
 d5.one (a0s a b (fun v => v = decide (a.whole = b.whole)) ⟨aag a, aag b, ⟨Tr.whole_some a, by rw [Tr.whole_high]; exact h⟩, rfl⟩)
theorem ae9 : ∀ x : Tr, (v6 x).length ≤ 4102 * x.size
 | .none | .eps => by simp [v6, Tr.size]
 | .cls s => by have := awp s; simp only [v6, Tr.size]; omega
 | .cat a b | .alt a b | .and a b | .minus a b => by
  have h1 := ae9 a; have h2 := ae9 b
  simp only [v6, Tr.size, List.length_append, List.length_cons, List.length_nil]
  have h3 := fun n => aei a n (v6 a); have h4 := fun n => aei b n (v6 b)
  have h5 := h3 0; have h6 := h3 1; have h7 := h3 2; have h8 := h4 1; have h9 := h4 2; have h10 := h4 3
  omega
 | .star a => by
  have h1 := ae9 a; have h3 := aei a 3 (v6 a)
  simp only [v6, Tr.size, List.length_append, List.length_cons, List.length_nil]
  omega
theorem abu (x : Tr) (n : Int) : (a7 x n).length ≤ 4104 * x.size := by
 have h1 := ae9 x; have h2 := aei x n (v6 x); have h3 := x.size_pos
 unfold a7; omega
theorem ayb {x : Tr} {n r : Int} (h : ago x = r) : a7 x n = if decide (r < n) = true then ([40] ++ v6 x) ++ [41] else v6 x := by
 unfold a7 agc; rw [h]; simp
theorem adh {x : Tr} {n r : Int} {s : List UInt8} (hr : ago x = r) (hs : v6 x = s) (hb : x.size ≤ 1099511627776) : if decide (r < n) = true then ([40] : List UInt8).length + s.length ≤ 9223372036854775807 ∧ (([40] : List UInt8) ++ s).length + ([41] : List UInt8).length ≤ 9223372036854775807 ∧ (([40] : List UInt8) ++ s) ++ ([41] : List UInt8) = a7 x n else s = a7 x n := by
 have hl := ae9 x
 rw [ayb hr, ← hs]
 split
 ·simp only [List.length_append, List.length_cons, List.length_nil]
  exact ⟨by omega, by omega, trivial⟩
 ·rfl
theorem aa8 (te : TypeId) (fre : Nat × Nat) : ∀ (x : Tr) (n : Int), x.size ≤ 1099511627776 → d5 Tryd.prog 13 [x.val, .int .i64 n] (z8 te fre) [] (Ret (st (a7 x n)) [])
 | .none, n, hb => d5.one (arp te fre n (fun v => v = a7 .none n) ⟨True, fun _ _ => adh rfl rfl hb, trivial⟩)
 | .eps, n, hb => d5.one (atb te fre n (fun v => v = a7 .eps n) ⟨True, fun _ _ => adh rfl rfl hb, trivial⟩)
 | .cls s, n, hb => d5.one (au0 te fre s n (fun v => v = a7 (.cls s) n) ⟨True, fun _ _ => adh rfl rfl hb, trivial⟩)
 | .cat a b, n, hb => d5.one (atg te fre a b n (fun v => v = a7 (.cat a b) n) (by
   have hb' := hb; simp only [Tr.size] at hb'
   have h1 := abu a 2; have h2 := abu b 3
   exact ⟨True, fun _ _ => adh rfl rfl hb, aa8 te fre a 2 (by omega), aa8 te fre b 3 (by omega), by omega, trivial⟩))
 | .alt a b, n, hb => d5.one (atp te fre a b n (fun v => v = a7 (.alt a b) n) (by
   have hb' := hb; simp only [Tr.size] at hb'
   have h1 := abu a 0; have h2 := abu b 1
   exact ⟨True, fun _ _ => adh rfl rfl hb, aa8 te fre a 0 (by omega), by simp only [List.length_cons, List.length_nil]; omega, aa8 te fre b 1 (by omega), by simp only [List.length_append, List.length_cons, List.length_nil]; omega, trivial⟩))
 | .and a b, n, hb => d5.one (aua te fre a b n (fun v => v = a7 (.and a b) n) (by
   have hb' := hb; simp only [Tr.size] at hb'
   have h1 := abu a 1; have h2 := abu b 2
   exact ⟨True, fun _ _ => adh rfl rfl hb, aa8 te fre a 1 (by omega), by simp only [List.length_cons, List.length_nil]; omega, aa8 te fre b 2 (by omega), by simp only [List.length_append, List.length_cons, List.length_nil]; omega, trivial⟩))
 | .minus a b, n, hb => d5.one (ap2 te fre a b n (fun v => v = a7 (.minus a b) n) (by
   have hb' := hb; simp only [Tr.size] at hb'
   have h1 := abu a 1; have h2 := abu b 2
   exact ⟨True, fun _ _ => adh rfl rfl hb, aa8 te fre a 1 (by omega), by simp only [List.length_cons, List.length_nil]; omega, aa8 te fre b 2 (by omega), by simp only [List.length_append, List.length_cons, List.length_nil]; omega, trivial⟩))
 | .star a, n, hb => d5.one (arv te fre a n (fun v => v = a7 (.star a) n) (by
   have hb' := hb; simp only [Tr.size] at hb'
   have h1 := abu a 3
   exact ⟨True, fun _ _ => adh rfl rfl hb, aa8 te fre a 3 (by omega), by simp only [List.length_cons, List.length_nil]; omega, trivial⟩))
end Go.Proofs.YtffhedoahdgniaaDoor
namespace Go.Proofs.YtffhedoahdgniaaDoor
open Go Go.ChangeShapes Go.WideShapes Go.ChangeAt Go.RowKit
theorem d5.pureE {f : FuncId} {vs : List Value} {v : Value} (h : ∀ te fre, d5 Tryd.prog f vs (z8 te fre) [] (Ret v [])) : aks f vs.toArray v := fun w ⟨te, fre, he⟩ => by
 refine (h te fre w [] rfl List.nodup_nil (fun k hk => by cases hk) (fun p hp => by obtain rfl := List.mem_singleton.1 hp; exact ⟨he, fun hx => by cases hx⟩)).mono ?_
 rintro en w' ⟨H', hS, hh⟩
 rcases hS with ⟨r, rfl, hS⟩ | ⟨c, rfl, hS⟩
 ·cases hS; exact ⟨rfl, hh.toBelow⟩
 ·cases hS
end Go.Proofs.YtffhedoahdgniaaDoor
namespace Go.Proofs.YtffhedoahdgniaaDoor
open Go Go.RowKit
variable {P : Program} {C : Cx} {H : List HA}
theorem LOk.at {v : Value} {n : Nat} {xs : List Value} (hL : LOk C H v n xs) {w : World} (hp : Hp C H w) : ∃ R, aeb v R n xs ∧ ∀ p ∈ R, w.heap[p.1]? = some p.2 := by
 obtain ⟨F, h1, _⟩ := hp.own
 obtain ⟨R, hR, hh⟩ := hL w F h1
 refine ⟨R, hR, fun p hp' => ?_⟩
 rcases hh p hp' with h | h
 ·exact h.1
 ·exact hp.old h
theorem FL.callL {ops : Array Oper} {T : World → o8 → Act → Prop} {L : FSl} {zl : List (Nat × Obj)} {k : Nat} {rest : List Oper} {f : FuncId} {xs : List Operand} {ats : Array TypeId} {d : Nat} {ty : TypeId} {p : String} {e : Array Edge} {g : Option (Nat × Bool)} {vs : List Value} {v v1 : Value} {n1 : Nat} {xs1 : List Value}
  (he : r8 P f = true) (hx : ∀ β, evs (L β) xs = some vs) (hc : ∀ R, aeb v1 R n1 xs1 → d5 P f vs (R ++ []) [] (Ret v [])) (hL : LOk C H v1 n1 xs1)
  (hz : z6 zl k = none) (hw : ∀ β, s8 ops (L β) ⟨some d, .call ⟨.value (.func f), xs.toArray, ats⟩, ty, p, e, g⟩ = some true) (hn : Nat.blt d C.n = true)
  (h : FL P ops T C (fun β => (d, v) :: L β) H zl (k + 1) rest) : FL P ops T C L H zl k (⟨some d, .call ⟨.value (.func f), xs.toArray, ats⟩, ty, p, e, g⟩ :: rest) := by
 intro A w0 hf hp
 refine ⟨fun _ => v, .inr ⟨hz, v, rfl, fun β => .inl ⟨m8 (hf β) (hw β), fun w hb => ?_⟩⟩, ?_⟩
 ·have hpw := hp.below hb
  obtain ⟨R, hR, hh⟩ := hL.at hpw
  rw [(EN.fn he (hx β)) _ w (hf β) hpw]
  refine (hc R hR w [] rfl List.nodup_nil (fun k hk => by cases hk) (fun q hq => ⟨hh q (by simpa using hq), by simp⟩)).mono ?_
  rintro en w' ⟨H', hS, hh⟩
  rcases hS with ⟨r, rfl, hS⟩ | ⟨c, rfl, hS⟩
  ·cases hS; exact ⟨rfl, hh.toBelow⟩
  ·cases hS
 ·exact h _ w0 (fun β => (hf β).put hn v) hp
end Go.Proofs.YtffhedoahdgniaaDoor
namespace Go.Proofs.YtffhedoahdgniaaDoor
open Go Go.RowKit
variable {P : Program} {ops : Array Oper} {Q : Exit → Act → World → Prop} {C : Cx} {L : Sl} {H : List HA} {md : Region.Mode} {S : World → Prop} {q : Nat}
def ajl (ops : Array Oper) : List Nat → List Oper
 | [] => []
 | i :: r => match ops[i]? with
  | some o => o :: ajl ops r
  | none => []
def azg (l : List Oper) : List Nat → List Oper
 | [] => []
 | i :: r => match l[i]? with
  | some o => o :: azg l r
  | none => []
theorem aim {i : Nat} {o : Oper} (h : ops[i]? = some o) (r : List Nat) : ajl ops (i :: r) = o :: ajl ops r := by
 rw [ajl, h]
theorem aqq (l : List Oper) : ∀ r, azg l r = ajl l.toArray r
 | [] => rfl
 | i :: r => by
  unfold azg ajl
  rw [List.getElem?_toArray, aqq l r]
def awd (md : Region.Mode) (ops : Array Oper) : List Nat → Array Bool → Bool
 | [], listed => (Region.ready md ops listed).isEmpty
 | i :: r, listed => decide (Region.ready md ops listed = [i]) && awd md ops r (listed.setIfInBounds i true)
def avb (md : Region.Mode) (ops : Array Oper) (tl : List Nat) : List Nat → Array Bool → Bool
 | [], listed => awd md ops tl listed
 | i :: r, listed => (Region.ready md ops listed).contains i && Region.free md ops listed i && avb md ops tl r (listed.setIfInBounds i true)
theorem ag5 : ∀ (tl : List Nat) (listed : Array Bool) (a : Act) (w : World), (tl ≠ [] → tl.getLast? = some q) →
  awd md ops tl listed = true → alx P ops Q S (ajl ops tl) a w → aez P md ops Q S q tl.length listed a w
 | [], _, _, _, _, hB, h => ⟨by simpa [awd] using hB, h⟩
 | i :: tl, listed, a, w, hq, hB, h => by
  simp only [awd, Bool.and_eq_true, decide_eq_true_eq] at hB
  obtain ⟨o, ho⟩ : ∃ o, ops[i]? = some o := by
   have hm : i ∈ Region.ready md ops listed := by rw [hB.1]; simp
   obtain ⟨_, o, ho, _⟩ := mem_ready.1 hm
   exact ⟨o, ho⟩
  rw [aim ho] at h
  refine ⟨fun h1 => (by rw [hB.1] at h1; cases h1), fun j hj => ?_⟩
  rw [hB.1] at hj
  obtain rfl : j = i := by simpa using hj
  unfold wpOp
  simp only [ho, h.1, if_true]
  have hl := hq (by simp)
  refine .inl (Oper.wp_mono (fun a' w' h' => ⟨fun hne => h'.1 (fun e => hne ?_), ?_⟩) h.2)
  ·refine ag5 tl _ a' w' (fun hne => ?_) hB.2 h'.2
   cases tl with
   | nil => exact absurd rfl hne
   | cons k tl => simpa using hl
  ·cases tl with
   | nil => simpa using hl
   | cons k tl =>
    exfalso
    have hk : ∃ o, ops[k]? = some o := by
     have h2 := hB.2
     simp only [awd, Bool.and_eq_true, decide_eq_true_eq] at h2
     have hm : k ∈ Region.ready md ops (listed.setIfInBounds j true) := by rw [h2.1]; simp
     obtain ⟨_, o, ho, _⟩ := mem_ready.1 hm
     exact ⟨o, ho⟩
    obtain ⟨o2, ho2⟩ := hk
    rw [aim ho2] at e
    cases e
theorem avn {tl : List Nat} {HK : List HA} (hsel : Region.noSelect ops = true) (hq : avq Q) (hlq : tl ≠ [] → tl.getLast? = some q) : ∀ (hs : List Nat) (listed : Array Bool) (L : Sl) (a : Act) (w : World),
  (∀ i ∈ hs, ∀ oq, ops[q]? = some oq → ∃ e ∈ oq.after, Region.binds .any e = true ∧ e.on = i) →
  avb .any ops tl hs listed = true → Fr C L a → Hp C H w → Hp C HK w → TW P ops C HK (fun L' => WLX P ops Q C HK L' H (ajl ops tl)) L (ajl ops hs) → aez P .any ops Q (Hp C HK) q (hs.length + tl.length) listed a w
 | [], listed, L, a, w, _, hB, hf, hp, _, h => by
  rw [show ([] : List Nat).length + tl.length = tl.length by simp]
  exact ag5 tl listed a w hlq hB (h a w hf hp)
 | i :: hs, listed, L, a, w, hlast, hB, hf, hp, hpk, h => by
  simp only [avb, Bool.and_eq_true] at hB
  obtain ⟨⟨hrd, hfr⟩, hB'⟩ := hB
  obtain ⟨o, h0⟩ : ∃ o, ops[i]? = some o := by
   obtain ⟨_, o, ho, _⟩ := mem_ready.1 (by simpa using hrd)
   exact ⟨o, ho⟩
  rw [aim h0] at h
  obtain ⟨v, d, hv, hd, hn, h⟩ := h
  have hy : YieldsIf P ops (Hp C HK) o v a := by
   rcases hv with ⟨hw, hv⟩ | ⟨hw, rfl⟩
   ·exact .inl ⟨m8 hf hw, fun w' hw' => hv a w' hf hw'⟩
   ·exact .inr ⟨m8 hf hw, rfl⟩
  have ih := avn hsel hq hlq hs (listed.setIfInBounds i true) ((d, v) :: L) (a.put (some d) v) w (fun j hj => hlast j (List.mem_cons_of_mem _ hj)) hB' (hf.put hn v) hp hpk h
  rw [show (i :: hs).length + tl.length = (hs.length + tl.length) + 1 by simp; omega]
  refine alf h0 hsel hfr hrd (fun c a w h => hq c a _ v w h) (hlast i List.mem_cons_self) hy hpk ?_
  rw [hd]; exact ih
def a1e (l : List Oper) (hs : List Nat) : Bool := match l[l.length - 1]? with
 | some o => hs.all fun i => o.after.any fun e => Region.binds .any e && Nat.beq e.on i
 | none => false
theorem ar4 {id : Nat} {l : List Oper} {L : Sl} (hs tl : List Nat) (idx : List Nat) (HK : List HA) (hi : x2 idx = true) (hk : sel H idx = HK) (hm : P.follows .mixedOrders = true)
  (hB : (Region.noSelect l.toArray && Nat.beq (hs.length + tl.length) l.length && decide (tl.getLast? = some (l.length - 1)) && a1e l hs && avb .any l.toArray tl hs (Array.replicate l.length false)) = true)
  (h : ∀ T : Sl → Prop, (∀ L', WLX P l.toArray (SP Q) C HK L' H (azg l tl) → T L') → TW P l.toArray C HK T L (azg l hs)) : WC P (.region id l.toArray true) Q C L H := by
 intro a w hf hp
 simp only [Bool.and_eq_true, decide_eq_true_eq] at hB
 obtain ⟨⟨⟨⟨hsel, hn⟩, hlq⟩, hla⟩, hlex⟩ := hB
 have hn' := Nat.eq_of_beq_eq_true hn
 refine wp_mono (Q := SP Q) (wp_region_any hm ?_) (fun e a w hq => ?_)
 ·have := aik _ _ _ _ (avn (P := P) (ops := l.toArray) (Q := SP Q) (C := C) (H := H) (HK := HK) (tl := tl) (q := l.length - 1) hsel SP.stays (fun _ => hlq) hs (Array.replicate l.length false) L a w.drew
   (fun i hi oq hoq => by
    unfold a1e at hla
    have h1 : l[l.length - 1]? = some oq := by simpa using hoq
    rw [h1] at hla
    have h2 := List.all_eq_true.1 hla i hi
    obtain ⟨e, he, hb⟩ := Array.any_eq_true'.1 h2
    simp only [Bool.and_eq_true] at hb
    exact ⟨e, he, hb.1, Nat.eq_of_beq_eq_true hb.2⟩)
   hlex hf hp.drew (hk ▸ hp.drew.pick idx hi) (by rw [← aqq, ← aqq]; exact h _ fun _ hh => hh))
  rw [hn'] at this
  simpa using this
 ·cases e with
  | panic c => exact hq a rfl rfl
  | _ => exact hq
end Go.Proofs.YtffhedoahdgniaaDoor
namespace Go.Proofs.YtffhedoahdgniaaDoor
open Go Go.RowKit
variable {P : Program} {ops : Array Oper} {Q : Exit → Act → World → Prop} {C : Cx} {L : Sl} {H : List HA} {rest : List Oper} {w : World}
def bag (K : List HA) : HA := .gen (fun w F => Own w K F) (fun _ _ _ h hk => h.keep hk)
theorem Own.openBag {K A : List HA} {F : List Nat} (h : Own w (bag K :: A) F) : Own w (K ++ A) F := by
 obtain ⟨F1, F2, rfl, h1, h2⟩ := h
 exact Own.append h1 h2
theorem Own.closeBag {K A : List HA} {F : List Nat} (h : Own w (K ++ A) F) : Own w (bag K :: A) F := by
 obtain ⟨F1, F2, rfl, h1, h2⟩ := h.split
 exact ⟨F1, F2, rfl, h1, h2⟩
theorem Own.perm {K K' : List HA} (hp : K.Perm K') : ∀ {F : List Nat}, Own w K F → ∃ F', Own w K' F' ∧ F.Perm F' := by
 induction hp with
 | nil => intro F h; exact ⟨F, h, .refl _⟩
 | cons x _ ih =>
  intro F h
  obtain ⟨F1, F2, rfl, h1, h2⟩ := h
  obtain ⟨F', h3, h4⟩ := ih h2
  exact ⟨F1 ++ F', ⟨F1, F', rfl, h1, h3⟩, h4.append_left F1⟩
 | swap x y l =>
  intro F h
  obtain ⟨F1, _, rfl, h1, F2, F3, rfl, h2, h3⟩ := h
  refine ⟨F2 ++ (F1 ++ F3), ⟨F2, _, rfl, h2, F1, F3, rfl, h1, h3⟩, ?_⟩
  rw [← List.append_assoc, ← List.append_assoc]
  exact List.Perm.append_right F3 List.perm_append_comm
 | trans _ _ ih1 ih2 =>
  intro F h
  obtain ⟨F1, h1, p1⟩ := ih1 h
  obtain ⟨F2, h2, p2⟩ := ih2 h1
  exact ⟨F2, h2, p1.trans p2⟩
theorem Hp.own' {K : List HA} (h : Hp C H w) (hk : ∀ F, Own w H F → ∃ F', Own w K F' ∧ F.Perm F') : Hp C K w := by
 obtain ⟨F, h1, h2, h3⟩ := h.own
 obtain ⟨F', k1, k2⟩ := hk F h1
 exact ⟨h.os, h.tape, h.output, h.size, h.keep, h.ro, F', k1, k2.nodup_iff.1 h2, fun k hm => h3 k (k2.mem_iff.2 hm)⟩
theorem Hp.perm {K : List HA} (hp : H.Perm K) (h : Hp C H w) : Hp C K w := h.own' fun _ hO => hO.perm hp
theorem Hp.openBag {K : List HA} (h : Hp C (bag K :: H) w) : Hp C (K ++ H) w := h.own' fun F hO => ⟨F, hO.openBag, .refl _⟩
theorem Hp.closeBag {K : List HA} (h : Hp C (K ++ H) w) : Hp C (bag K :: H) w := h.own' fun F hO => ⟨F, hO.closeBag, .refl _⟩
theorem WL.hp {H' : List HA} (hh : ∀ w, Hp C H w → Hp C H' w) (h : WL P ops Q C L H' rest) : WL P ops Q C L H rest := fun a w hf hp => h a w hf (hh w hp)
theorem WC.hp {c : Code} {H' : List HA} (hh : ∀ w, Hp C H w → Hp C H' w) (h : WC P c Q C L H') : WC P c Q C L H := fun a w hf hp => h a w hf (hh w hp)
theorem QX.hp {e : Exit} {H' : List HA} (hh : ∀ w, Hp C H w → Hp C H' w) (h : QX Q e C L H') : QX Q e C L H := fun a w hf hp => h a w hf (hh w hp)
theorem OpK.hp {o : Oper} {L' : Sl} {H1 H' H1' : List HA} (h1 : ∀ w, Hp C H w → Hp C H1 w) (h : OpK P o Q C L H1 L' H1') (h2 : ∀ w, Hp C H1' w → Hp C H' w) : OpK P o Q C L H L' H' := fun K hK a w hf hp =>
 h K (fun a' w' hf' hp' => hK a' w' hf' (h2 w' hp')) a w hf (h1 w hp)
theorem Own.mem {K : List HA} {x : HA} : ∀ {F : List Nat}, Own w K F → x ∈ K → ∃ f, x.at w f ∧ ∀ k ∈ f, k ∈ F := by
 induction K with
 | nil => intro F _ h; cases h
 | cons y K ih =>
  rintro F ⟨F1, F2, rfl, h1, h2⟩ h
  rcases List.mem_cons.1 h with rfl | h
  ·exact ⟨F1, h1, fun k hk => List.mem_append.2 (.inl hk)⟩
  ·obtain ⟨f, h3, h4⟩ := ih h2 h
   exact ⟨f, h3, fun k hk => List.mem_append.2 (.inr (h4 k hk))⟩
theorem Hp.inBag {K : List HA} {x : HA} (i : Nat) (hi : H[i]? = some (bag K)) (hx : x ∈ K) (hp : Hp C H w) : ∃ f, x.at w f := by
 obtain ⟨F, h1, _⟩ := hp.own
 obtain ⟨f, hf⟩ := h1.each i _ hi
 obtain ⟨f2, h2, _⟩ := Own.mem (K := K) hf hx
 exact ⟨f2, h2⟩
theorem At.bag {K : List HA} {b : Nat} {o : Obj} (i : Nat) (hi : H[i]? = some (Go.Proofs.YtffhedoahdgniaaDoor.bag K)) (hx : HA.blk b o ∈ K) : At C H b o := fun w hp => by
 obtain ⟨f, h⟩ := hp.inBag i hi hx
 exact h.2
theorem Hp.rowBag {K : List HA} {v : Value} {T sz n : Nat} {xs : List Value} (i : Nat) (hi : H[i]? = some (bag K)) (hx : HA.row v T sz n xs ∈ K) (hp : Hp C H w) : w.ownsRow 0 T sz v n xs := by
 obtain ⟨f, h⟩ := hp.inBag i hi hx
 exact h.2
theorem Hp.consRow {v : Value} {T sz n : Nat} {xs : List Value} (_hp : Hp C H w) (h : w.ownsRow 0 T sz v n xs) : ∃ C', Hp C' [.row v T sz n xs] w ∧ C'.n = C.n ∧ C'.D = C.D := by
 have hF : ∀ k ∈ v.ownBlock.toList, k < w.heap.size := by
  intro k hk
  rcases h.2 with ⟨rfl, _⟩ | ⟨b, cap, cur, rfl, _, hb, _⟩
  ·simp [Value.ownBlock] at hk
  ·simp [Value.ownBlock] at hk
   subst hk
   exact j9 hb
 refine ⟨⟨C.n, C.D, w, v.ownBlock.toList, []⟩, ?_, rfl, rfl⟩
 exact { os := rfl, tape := rfl, output := rfl, size := Nat.le_refl _, keep := fun _ _ _ => rfl, ro := fun _ h => (by cases h), own := ⟨v.ownBlock.toList, ⟨_, [], by simp, ⟨rfl, h⟩, rfl⟩, by cases v.ownBlock <;> simp, fun k hk => ⟨hF k hk, .inr hk⟩⟩ }
theorem Fr.same {C' : Cx} {a : Act} (h : Fr C L a) (hn : C'.n = C.n) (hd : C'.D = C.D) : Fr C' L a := ⟨by rw [hd]; exact h.defers, by rw [hn]; exact h.size, h.get⟩
section ov
variable {x y : Operand} {t e' ty T : TypeId} {d : Option Tmp} {p : String} {e : Array Edge} {g : Option (Nat × Bool)} {v : Value} {k : IntKind} {sz n : Nat} {xs : List Value} {K : List HA} {α : Type} [Inhabited α] {f : α → List Value} {l : List α}
theorem OV.ofRow {o : Oper} {u : Value} (hr : ∀ w, Hp C H w → w.ownsRow 0 T sz v n xs) (h : ∀ C', OV P C' L [.row v T sz n xs] o u) : OV P C L H o u := fun a w hf hp => by
 obtain ⟨C', h1, h2, h3⟩ := hp.consRow (hr w hp)
 exact h C' a w (hf.same h2 h3) h1
theorem OV.indexBag (i : Nat) (hi : H[i]? = some (bag K)) (hk : HA.row v T sz n xs ∈ K) {j : Int} (hx : ev L x = some v) (hy : ev L y = some (.int k j)) (ht : slB P t e' sz = true) (hb : 0 ≤ j ∧ j < n) : OV P C L H ⟨d, .indexAddr t x y, ty, p, e, g⟩ (.pointer (some ⟨n9 v, j.toNat * sz, none⟩)) :=
 OV.ofRow (fun _ hp => hp.rowBag i hi hk) fun _ => OV.indexRow 0 hx hy rfl ht hb
theorem OV.loadBag (i : Nat) (hi : H[i]? = some (bag K)) (hk : HA.row v T 1 l.length (l.flatMap f) ∈ K) {j : Nat} {u : Value} (hx : ev L x = some (.pointer (some ⟨n9 v, j * 1, none⟩))) (hf' : ∀ x, (f x).length = 1) (hj : j < l.length) (hu : (f (l.getD j default))[0]? = some u) (ht : aaj P t = true) : OV P C L H ⟨d, .load t x, ty, p, e, g⟩ u :=
 OV.ofRow (fun _ hp => hp.rowBag i hi hk) fun _ => OV.loadE1 0 hx rfl hf' hj hu ht
end ov
theorem LOk.bag {Rest K : List HA} {v : Value} {T sz n : Nat} {xs : List Value} (i : Nat) (hi : Rest[i]? = some (Go.Proofs.YtffhedoahdgniaaDoor.bag K)) (hk : HA.row v T sz n xs ∈ K) : LOk C Rest v n xs := fun w F hO => by
 obtain ⟨f, h1, h2⟩ := hO.mem (List.mem_of_getElem? hi)
 obtain ⟨f2, h3, h4⟩ := Own.mem (K := K) h1 hk
 obtain ⟨R, h5, h6⟩ := LOk.row (C := C) (Rest := [.row v T sz n xs]) 0 rfl w f2 ⟨f2, [], by simp, h3, rfl⟩
 exact ⟨R, h5, fun q hq => (h6 q hq).imp (fun h => ⟨h.1, h2 _ (h4 _ h.2)⟩) id⟩
end Go.Proofs.YtffhedoahdgniaaDoor
namespace Go.Proofs.YtffhedoahdgniaaDoor
open Go Go.RowKit
variable {P : Program} {ops : Array Oper} {Q : Exit → Act → World → Prop} {C : Cx} {L : Sl} {H : List HA} {rest : List Oper} {w : World}
def acw (v : Value) : List Value := [v]
theorem afe (v : Value) : (acw v).length = 1 := rfl
def q7 (b : Bool) : List Value := [.bool b]
theorem aam (b : Bool) : (q7 b).length = 1 := rfl
structure TabC where
 b : Nat
 E : Value
 rvs : List Value
 n : Nat
 w : Value
 r : Int
 s : List UInt8
abbrev TE := Nat × Nat × Value × List Bool
def akm (σ : List TE) (i k : Nat) : Option Value := (σ.find? fun e => decide (e.1 = i ∧ e.2.1 = k)).map (·.2.2.1)
def air (σ : List TE) (i k : Nat) : Value := (akm σ i k).getD (.slice none 0 0)
def aix (n : Nat) (σ : List TE) (i : Nat) : List Value := (List.range (n + 1)).map (air σ i)
def aj9 (c : TabC) (σ : List TE) (i : Nat) : HA := .row (c.rvs.getD i default) 70 1 (aix c.n σ i).length ((aix c.n σ i).flatMap acw)
def aoj (e : TE) : HA := .row e.2.2.1 4 1 e.2.2.2.length (e.2.2.2.flatMap q7)
def aqo (c : TabC) (σ : List TE) : List HA :=
 .blk c.b (.cells [c.w, .int .i64 c.r, st c.s, c.E].toArray 101 (0, 0)) :: .row c.E 102 1 c.rvs.length (c.rvs.flatMap acw) :: ((List.range c.rvs.length).map (aj9 c σ) ++ σ.map aoj)
def tab (c : TabC) (σ : List TE) : HA := bag (aqo c σ)
def InT (σ : List TE) (v : Value) (l : List Bool) : Prop := ∃ i k, (i, k, v, l) ∈ σ
theorem ab5 (n : Nat) (σ : List TE) (i : Nat) : (aix n σ i).length = n + 1 := by simp [aix]
theorem ayv (n : Nat) (σ : List TE) (i : Nat) {k : Nat} (hk : k < n + 1) : (aix n σ i).getD k default = air σ i k := by
 rw [List.getD_eq_getElem?_getD, List.getElem?_eq_getElem (by rw [ab5]; exact hk)]
 simp [aix]
theorem awo (σ : List TE) (i k : Nat) (v : Value) (l : List Bool) : air ((i, k, v, l) :: σ) i k = v := by simp [air, akm]
theorem aog (σ : List TE) {i k i' k' : Nat} (v : Value) (l : List Bool) (h : ¬ (i = i' ∧ k = k')) : air ((i, k, v, l) :: σ) i' k' = air σ i' k' := by
 unfold air akm
 rw [List.find?_cons_of_neg (by simpa using h)]
theorem awh (n : Nat) (σ : List TE) (i k : Nat) (v : Value) (l : List Bool) : aix n ((i, k, v, l) :: σ) i = (aix n σ i).set k v := by
 refine List.ext_getElem? fun j => ?_
 by_cases hj : j < n + 1
 ·by_cases h : k = j
  ·subst h
   rw [List.getElem?_set_self (by rw [ab5]; exact hj), List.getElem?_eq_getElem (by rw [ab5]; exact hj)]
   simp [aix, awo]
  ·rw [List.getElem?_set_ne h, List.getElem?_eq_getElem (by rw [ab5]; exact hj), List.getElem?_eq_getElem (by rw [ab5]; exact hj)]
   simp [aix, aog σ v l (show ¬ (i = i ∧ k = j) from fun h2 => h h2.2)]
 ·rw [List.getElem?_eq_none (by rw [ab5]; omega), List.getElem?_eq_none (by rw [List.length_set, ab5]; omega)]
theorem auv (n : Nat) (σ : List TE) {i i' : Nat} (k : Nat) (v : Value) (l : List Bool) (h : i ≠ i') : aix n ((i, k, v, l) :: σ) i' = aix n σ i' := by
 unfold aix
 exact List.map_congr_left fun j _ => aog σ v l fun h2 => h h2.1
section ov
variable {x y : Operand} {t e' ty : TypeId} {d : Option Tmp} {p : String} {e : Array Edge} {g : Option (Nat × Bool)} {v : Value} {k : IntKind} {c : TabC} {σ : List TE} {l : List Bool}
theorem At.tab (i : Nat) (hi : H[i]? = some (Go.Proofs.YtffhedoahdgniaaDoor.tab c σ)) : At C H c.b (.cells [c.w, .int .i64 c.r, st c.s, c.E].toArray 101 (0, 0)) := At.bag i hi (List.mem_cons_self)
theorem ay1 : HA.row c.E 102 1 c.rvs.length (c.rvs.flatMap acw) ∈ aqo c σ := List.mem_cons_of_mem _ List.mem_cons_self
theorem azp {q : Nat} (hq : q < c.rvs.length) : aj9 c σ q ∈ aqo c σ := List.mem_cons_of_mem _ (List.mem_cons_of_mem _ (List.mem_append.2 (.inl (List.mem_map.2 ⟨q, List.mem_range.2 hq, rfl⟩))))
theorem aq6 (h : InT σ v l) : HA.row v 4 1 l.length (l.flatMap q7) ∈ aqo c σ := by
 obtain ⟨i, k, h⟩ := h
 exact List.mem_cons_of_mem _ (List.mem_cons_of_mem _ (List.mem_append.2 (.inr (List.mem_map.2 ⟨_, h, rfl⟩))))
theorem OV.tabE (i : Nat) (hi : H[i]? = some (tab c σ)) {j : Int} (hx : ev L x = some c.E) (hy : ev L y = some (.int k j)) (ht : slB P t e' 1 = true) (hb : 0 ≤ j ∧ j < (c.rvs.length : Int)) : OV P C L H ⟨d, .indexAddr t x y, ty, p, e, g⟩ (.pointer (some ⟨n9 c.E, j.toNat * 1, none⟩)) := OV.indexBag i hi ay1 hx hy ht hb
theorem OV.tabER (i : Nat) (hi : H[i]? = some (tab c σ)) {j : Nat} (hx : ev L x = some (.pointer (some ⟨n9 c.E, j * 1, none⟩))) (hj : j < c.rvs.length) (ht : aaj P t = true) : OV P C L H ⟨d, .load t x, ty, p, e, g⟩ (c.rvs.getD j default) := OV.loadBag i hi ay1 hx afe hj rfl ht
theorem OV.tabR (i : Nat) (hi : H[i]? = some (tab c σ)) {q : Nat} (hq : q < c.rvs.length) {j : Int} (hx : ev L x = some (c.rvs.getD q default)) (hy : ev L y = some (.int k j)) (ht : slB P t e' 1 = true) (hb : 0 ≤ j ∧ j < (c.n : Int) + 1) : OV P C L H ⟨d, .indexAddr t x y, ty, p, e, g⟩ (.pointer (some ⟨n9 (c.rvs.getD q default), j.toNat * 1, none⟩)) :=
 OV.indexBag i hi (azp hq) hx hy ht (by rw [ab5]; omega)
theorem OV.tabRE (i : Nat) (hi : H[i]? = some (tab c σ)) {q j : Nat} (hq : q < c.rvs.length) (hx : ev L x = some (.pointer (some ⟨n9 (c.rvs.getD q default), j * 1, none⟩))) (hj : j < c.n + 1) (ht : aaj P t = true) : OV P C L H ⟨d, .load t x, ty, p, e, g⟩ (air σ q j) :=
 OV.loadBag i hi (azp hq) hx afe (by rw [ab5]; exact hj) (by rw [ayv _ _ _ hj]; rfl) ht
theorem OV.tabO (i : Nat) (hi : H[i]? = some (tab c σ)) (hn : InT σ v l) {j : Int} (hx : ev L x = some v) (hy : ev L y = some (.int k j)) (ht : slB P t e' 1 = true) (hb : 0 ≤ j ∧ j < (l.length : Int)) : OV P C L H ⟨d, .indexAddr t x y, ty, p, e, g⟩ (.pointer (some ⟨n9 v, j.toNat * 1, none⟩)) := OV.indexBag i hi (aq6 hn) hx hy ht hb
theorem OV.tabOB (i : Nat) (hi : H[i]? = some (tab c σ)) (hn : InT σ v l) {j : Nat} (hx : ev L x = some (.pointer (some ⟨n9 v, j * 1, none⟩))) (hj : j < l.length) (ht : aaj P t = true) : OV P C L H ⟨d, .load t x, ty, p, e, g⟩ (.bool (l.getD j default)) := OV.loadBag i hi (aq6 hn) hx aam hj rfl ht
theorem OV.tabHas {t' : TypeId} (i : Nat) (hi : H[i]? = some (tab c σ)) {q j : Nat} (hx : ev L x = some (air σ q j)) (hy : ev L y = some (.slice none 0 0)) (ht : P.underlying t = some (.slice e')) (hn : ∀ e ∈ σ, e.2.2.2 ≠ []) : OV P C L H ⟨d, .binOp .neq t x y t', ty, p, e, g⟩ (.bool (akm σ q j).isSome) := fun a w hf hp => by
 simp only [execOp, hf.ev hx, hf.ev hy, eqGuard]
 unfold air
 cases hh : akm σ q j with
 | none => simp [run_neq_slice_nil w t e' none 0 0 ht]
 | some v =>
  unfold akm at hh
  obtain ⟨ee, he, rfl⟩ := Option.map_eq_some_iff.1 hh
  have hm := List.mem_of_find?_eq_some he
  have hr := hp.rowBag i hi (aq6 (v := ee.2.2.1) (l := ee.2.2.2) ⟨_, _, hm⟩)
  rcases hr.2 with ⟨h1, h2⟩ | ⟨b, cap, cur, h1, _⟩
  ·have := hr.1
   have h3 := hn ee hm
   have h4 : ee.2.2.2.length ≠ 0 := fun h => h3 (List.eq_nil_of_length_eq_zero h)
   exact absurd h2 h4
  ·simp only [Option.getD_some, h1]
   simp [run_neq_slice_nil w t e' (some ⟨b, 0, none⟩) _ cap ht]
theorem LOk.tab {Rest : List HA} (i : Nat) (hi : Rest[i]? = some (Go.Proofs.YtffhedoahdgniaaDoor.tab c σ)) (hn : InT σ v l) : LOk C Rest v l.length (l.flatMap q7) := LOk.bag i hi (aq6 hn)
theorem atz (f f' : Nat → HA) {N i : Nat} (hi : i < N) (hne : ∀ j, i ≠ j → f' j = f j) : ∃ A, ((List.range N).map f).Perm (f i :: A) ∧ ((List.range N).map f').Perm (f' i :: A) := by
 refine ⟨((List.range N).erase i).map f, ?_, ?_⟩
 ·exact (List.perm_cons_erase (List.mem_range.2 hi)).map f
 ·have h := (List.perm_cons_erase (List.mem_range.2 hi)).map f'
  have e : ((List.range N).erase i).map f' = ((List.range N).erase i).map f := List.map_congr_left fun j hj => hne j fun h2 => by
   subst h2
   exact absurd rfl ((List.nodup_range.mem_erase_iff).1 hj).1
  rw [List.map_cons, e] at h
  exact h
theorem axb (c : TabC) (σ : List TE) {i : Nat} (k : Nat) (v : Value) (l : List Bool) (hi : i < c.rvs.length) : ∃ A, (aqo c σ).Perm (aj9 c σ i :: A) ∧ (aqo c ((i, k, v, l) :: σ)).Perm (aj9 c ((i, k, v, l) :: σ) i :: aoj (i, k, v, l) :: A) := by
 obtain ⟨A, h1, h2⟩ := atz (aj9 c σ) (aj9 c ((i, k, v, l) :: σ)) hi (fun j hj => by unfold aj9; rw [auv _ _ _ _ _ hj])
 refine ⟨.blk c.b (.cells [c.w, .int .i64 c.r, st c.s, c.E].toArray 101 (0, 0)) :: .row c.E 102 1 c.rvs.length (c.rvs.flatMap acw) :: (A ++ σ.map aoj), ?_, ?_⟩
 ·unfold aqo
  refine (((h1.append_right _).cons _).cons _).trans ?_
  refine ((List.Perm.swap _ _ _).cons _).trans ?_
  exact List.Perm.swap _ _ _
 ·unfold aqo
  rw [List.map_cons]
  refine (((h2.append_right _).cons _).cons _).trans ?_
  have h3 : ((aj9 c ((i, k, v, l) :: σ) i :: A) ++ aoj (i, k, v, l) :: σ.map aoj).Perm (aj9 c ((i, k, v, l) :: σ) i :: aoj (i, k, v, l) :: (A ++ σ.map aoj)) := List.Perm.cons _ List.perm_middle
  exact ((h3.cons _).cons _).trans (List.Perm.append_right (A ++ σ.map aoj) (List.perm_append_comm (l₁ := [_, _]) (l₂ := [_, _])))
theorem WL.tabStore {i k : Nat} (hx : ev L x = some (.pointer (some ⟨n9 (c.rvs.getD i default), k * 1, none⟩))) (hy : ev L y = some v) (hi : i < c.rvs.length) (hk : k < c.n + 1) (hs : s7 P t 1 = true) (hw : s8 ops L ⟨none, .store t x y, ty, p, e, g⟩ = some true)
  (h : WL P ops Q C L (tab c ((i, k, v, l) :: σ) :: H) rest) : WL P ops Q C L (.row v 4 1 l.length (l.flatMap q7) :: tab c σ :: H) (⟨none, .store t x y, ty, p, e, g⟩ :: rest) := by
 obtain ⟨A, h1, h2⟩ := axb c σ k v l hi
 refine WL.rowOne 0 rfl fun hone => ?_
 refine WL.hp (H' := aj9 c σ i :: aoj (i, k, v, l) :: (A ++ H)) (fun w hp => ?_) ?_
 ·have hp1 := hp.perm (List.Perm.swap _ _ _)
  have hp2 := hp1.openBag.perm (h1.append_right _)
  refine hp2.perm ?_
  refine List.Perm.cons _ ?_
  exact List.perm_middle
 ·refine WL.storeE (f := acw) (z := v) 0 hx hy rfl afe (by decide) (by rw [ab5]; exact hk) (aha hone) hs (by simp [acw, hone]) hw ?_
  refine WL.hp (fun w hp => ?_) h
  rw [← awh c.n σ i k v l] at hp
  have hp' : Hp C (aj9 c ((i, k, v, l) :: σ) i :: aoj (i, k, v, l) :: (A ++ H)) w := hp
  exact (hp'.perm (h2.append_right H).symm).closeBag
end ov
@[irreducible] def o5 (c : Int) : List Bool := List.replicate c.toNat false
theorem abb (c : Int) : o5 c = List.replicate c.toNat false := by unfold o5; rfl
theorem WL.makeZ {x y : Operand} {t e' ty : TypeId} {d : Nat} {p : String} {e : Array Edge} {g : Option (Nat × Bool)} {k k' : IntKind} {bytes : Nat} {c : Int} (hx : ev L x = some (.int k c)) (hy : ev L y = some (.int k' c)) (ht : slB P t e' 1 = true) (hinf : afn P e' = some ([Value.bool false], 1, bytes)) (hb : 0 ≤ c ∧ (bytes : Int) * c ≤ 281474976710656 ∧ c ≤ 9223372036854775807)
  (hw : s8 ops L ⟨some d, .makeSlice t x y, ty, p, e, g⟩ = some true) (hn : Nat.blt d C.n = true)
  (h : ∀ v, WL P ops Q C ((d, v) :: L) (.row v e' 1 (o5 c).length ((o5 c).flatMap q7) :: H) rest) : WL P ops Q C L H (⟨some d, .makeSlice t x y, ty, p, e, g⟩ :: rest) :=
 WL.makeRow (zero := false) hx hy ht hinf hb q7 rfl aam hw hn fun v => by
  have := h v
  rw [abb] at this
  exact this
section mk
variable {α : Type} [Inhabited α] {f : α → List Value} {sz bytes : Nat} {zs : List Value} {x y : Operand} {t e' ty T : TypeId} {d : Nat} {p : String} {e : Array Edge} {g : Option (Nat × Bool)} {k k' : IntKind}
omit [Inhabited α] in
theorem ap4 {c : Int} {zero : α} (hx : ev L x = some (.int k c)) (hy : ev L y = some (.int k' c)) (ht : slB P t e' sz = true) (hinf : afn P e' = some (zs, sz, bytes)) (hb : 0 ≤ c ∧ (bytes : Int) * c ≤ 281474976710656 ∧ c ≤ 9223372036854775807)
  (f : α → List Value) (hz : zs = f zero) (hf' : ∀ x, (f x).length = sz) : a1p P C L H ⟨some d, .makeSlice t x y, ty, p, e, g⟩ (fun v H' => H' = .row v e' sz (List.replicate c.toNat zero).length ((List.replicate c.toNat zero).flatMap f) :: H) := by
 intro a w hf hp
 obtain ⟨inf, z, q1, q2, q3, q4, q5⟩ := afu hinf
 obtain ⟨c, rfl⟩ : ∃ n : Nat, c = n := ⟨c.toNat, by omega⟩
 have hb1 : inf.bytes * c ≤ 281474976710656 := by
  have h2 := hb.2.1
  rw [q5]
  have : ((bytes * c : Nat) : Int) ≤ 281474976710656 := by rw [Int.natCast_mul]; exact h2
  omega
 obtain ⟨w', hr, r1, r2⟩ := run_make_full (P := P) w 0 t e' inf z sz (aay ht).1 q1 q2 q4 k k' c hb1 (by simp only [maxLen]; omega) (Nat.zero_le _)
 refine ⟨.slice (some ⟨w.heap.size, 0, none⟩) c c, w', _, ?_, rfl, hp.newRow r2 rfl (Nat.le_refl _) ?_⟩
 ·simp only [execOp, hf.ev hx, hf.ev hy, Sem.run_bind, hr, Result.andThen_ok, Sem.run_pure]
 ·rw [apj (zero := zero) (f := f) (by rw [q3]; exact hz) hf'] at r1
  rw [List.length_replicate, Int.toNat_natCast]; exact r1
theorem OpK.storeRV {v u : Value} {l : List Value} {j n' sz' : Nat} {T' : TypeId} {xs : List Value} (i q : Nat) (hx : ev L x = some (.pointer (some ⟨n9 v, j * 1, none⟩))) (hy : ev L y = some u) (hi : H[i]? = some (.row v T 1 l.length (l.flatMap acw))) (hq : H[q]? = some (.row u T' sz' n' xs)) (hj : j < l.length) (hs : s7 P t 1 = true) :
  OpK P ⟨none, .store t x y, ty, p, e, g⟩ Q C L H L (H.set i (.row v T 1 (l.set j u).length ((l.set j u).flatMap acw))) := by
 intro K hK a w hf hp
 have hone : u.oneCell' = true := by
  rcases (hp.row hq).2 with ⟨rfl, _⟩ | ⟨_, _, _, rfl, _⟩ <;> rfl
 exact OpK.storeE (f := acw) (z := u) i hx hy hi afe (by decide) hj (aha hone) hs (by simp [acw, hone]) K hK a w hf hp
end mk
def ayh (n : Nat) (v : Value) : HA := .row v 70 1 (List.replicate (n + 1) (Value.slice none 0 0)).length ((List.replicate (n + 1) (Value.slice none 0 0)).flatMap acw)
def aeo (n : Nat) (rs : List Value) : HA := bag (rs.map (ayh n))
theorem WC.newRows {c : Code} (n : Nat) (h : WC P c Q C L (aeo n [] :: H)) : WC P c Q C L H := WC.hp (fun _ hp => Hp.closeBag (K := []) hp) h
theorem arl {n m : Nat} {v : Value} {rs : List Value} (hm : m = n + 1) (hp : Hp C (.row v 70 1 (List.replicate m (Value.slice none 0 0)).length ((List.replicate m (Value.slice none 0 0)).flatMap acw) :: aeo n rs :: H) w) : Hp C (aeo n (rs ++ [v]) :: H) w := by
 subst hm
 have h1 := (hp.perm (List.Perm.swap _ _ _)).openBag
 refine Hp.closeBag (h1.perm ?_)
 rw [List.map_append, List.append_assoc]
 exact List.Perm.refl _
theorem QX.rows {e : Exit} {n m : Nat} {v : Value} {rs : List Value} (hm : m = n + 1) (h : QX Q e C L (aeo n (rs ++ [v]) :: H)) : QX Q e C L (.row v 70 1 (List.replicate m (Value.slice none 0 0)).length ((List.replicate m (Value.slice none 0 0)).flatMap acw) :: aeo n rs :: H) := QX.hp (fun _ hp => arl hm hp) h
theorem ROk.olds {Rest : List HA} : ∀ {R : List (Nat × Obj)}, (∀ q ∈ R, q ∈ C.R) → ROk C Rest (R ++ [])
 | [], _ => trivial
 | q :: _, h => ⟨.inr (h q List.mem_cons_self), ROk.olds fun x hx => h x (List.mem_cons_of_mem _ hx)⟩
theorem azl (n i : Nat) : aix n [] i = List.replicate (n + 1) (Value.slice none 0 0) := by
 unfold aix
 exact (List.map_congr_left (g := fun _ => Value.slice none 0 0) (fun _ _ => rfl)).trans (by rw [List.map_const', List.length_range])
theorem ay2 (rs : List Value) (f : Value → HA) : (List.range rs.length).map (fun i => f (rs.getD i default)) = rs.map f := by
 refine List.ext_getElem? fun j => ?_
 by_cases hj : j < rs.length
 ·rw [List.getElem?_eq_getElem (by simpa using hj), List.getElem?_eq_getElem (by simpa using hj)]
  simp [List.getD_eq_getElem?_getD, List.getElem?_eq_getElem hj]
 ·rw [List.getElem?_eq_none (by simpa using hj), List.getElem?_eq_none (by simpa using hj)]
theorem Hp.closeTab {c : TabC} (h : Hp C (.blk c.b (.cells [c.w, .int .i64 c.r, st c.s, c.E].toArray 101 (0, 0)) :: .row c.E 102 1 c.rvs.length (c.rvs.flatMap acw) :: aeo c.n c.rvs :: H) w) : Hp C (tab c [] :: H) w := by
 have h1 := (h.perm (K := aeo c.n c.rvs :: .blk c.b (.cells [c.w, .int .i64 c.r, st c.s, c.E].toArray 101 (0, 0)) :: .row c.E 102 1 c.rvs.length (c.rvs.flatMap acw) :: H) (List.perm_append_comm (l₁ := [_, _]) (l₂ := [_]) |>.append_right H)).openBag
 refine Hp.closeBag (h1.perm ?_)
 have e : (List.range c.rvs.length).map (aj9 c []) = c.rvs.map (ayh c.n) := by
  rw [← ay2 c.rvs (ayh c.n)]
  refine List.map_congr_left fun i _ => ?_
  unfold aj9 ayh
  rw [azl]
 unfold aqo
 rw [e, List.map_nil, List.append_nil]
 have h3 := (List.perm_append_comm (l₁ := c.rvs.map (ayh c.n)) (l₂ := [.blk c.b (.cells [c.w, .int .i64 c.r, st c.s, c.E].toArray 101 (0, 0)), .row c.E 102 1 c.rvs.length (c.rvs.flatMap acw)])).append_right H
 rw [List.append_assoc] at h3
 exact h3
theorem d5.closeTab {f : FuncId} {args : List Value} {R : List (Nat × Obj)} {w0 : Value} {r0 : Int} {s0 : List UInt8} {n : Nat} {Ok : List Value → Prop}
  (h : d5 P f args R [] (fun o => ∃ b E l rs, (l = rs ∧ Ok rs) ∧ o = .ret (Value.pointer (some ⟨b, 0, none⟩)) [HA.blk b (.cells [w0, .int .i64 r0, st s0, E].toArray 101 (0, 0)), HA.row E 102 1 l.length (l.flatMap acw), aeo n rs])) :
  d5 P f args R [] (fun o => ∃ b E rs, Ok rs ∧ o = .ret (Value.pointer (some ⟨b, 0, none⟩)) [tab ⟨b, E, rs, n, w0, r0, s0⟩ []]) := fun w M hO hn hl hR => by
 refine (h w M hO hn hl hR).mono ?_
 rintro en w' ⟨H', hS, hp⟩
 rcases hS with ⟨r, rfl, b, E, l, rs, ⟨rfl, hok⟩, ho⟩ | ⟨c, rfl, b, E, l, rs, _, ho⟩
 ·cases ho
  exact ⟨_, .inl ⟨_, rfl, b, E, l, hok, rfl⟩, Hp.closeTab (c := ⟨b, E, l, n, w0, r0, s0⟩) hp⟩
 ·cases ho
end Go.Proofs.YtffhedoahdgniaaDoor
namespace Go.Proofs.YtffhedoahdgniaaDoor
open Go Go.RowKit
def t0 (n : Int) : List Value := [.int .i64 n]
theorem aa7 (n : Int) : (t0 n).length = 1 := rfl
theorem az2 (t : List UInt8) (j : Int) : 0 ≤ nx t j ∧ nx t j < 256 := by
 unfold nx
 have := (t.getD j.toNat 0).toNat_lt
 omega
theorem a1u {t : List UInt8} {j : Int} (h : (t.length : Int) ≤ j) : nx t j = 0 := by
 unfold nx
 rw [List.getD_eq_getElem?_getD, List.getElem?_eq_none (by omega)]; rfl
theorem RP.total (t : List UInt8) : ∀ (n : Nat) (x : Tr) (j : Int), 0 ≤ j → (t.length : Int) - j < n → ∃ r, RP t x j r
 | 0, x, j, h0, h => ⟨_, .zero (by omega)⟩
 | n + 1, x, j, h0, h => by
  by_cases hl : j < t.length
  ·by_cases h1 : nx t j = 42 ∨ nx t j = 43 ∨ nx t j = 63
   ·obtain ⟨r, hr⟩ := RP.total t n (ak2 (nx t j) x) (j + 1) (by omega) (by omega)
    exact ⟨r, .one hl h1 hr⟩
   ·by_cases h2 : nx t j = 123
    ·cases hb : z7 t x j with
     | error e => exact ⟨_, .braceE hl h2 hb⟩
     | ok p =>
      obtain ⟨y, k⟩ := p
      have := aiv hb h0 hl
      obtain ⟨r, hr⟩ := RP.total t n y k (by omega) (by omega)
      exact ⟨r, .brace hl h2 hb hr⟩
    ·exact ⟨_, .zero (by omega)⟩
  ·exact ⟨_, .zero (by omega)⟩
theorem RP.tot (t : List UInt8) (x : Tr) {j : Int} (h0 : 0 ≤ j) : ∃ r, RP t x j r := RP.total t ((t.length : Int) - j + 1).toNat x j h0 (by omega)
abbrev Tot (t : List UInt8) (m : Md) (i : Int) : Prop := ∀ d, ∃ r, PR t m d i r
theorem akg {t : List UInt8} {i : Int} (hA : ∀ j, i < j → Tot t .alt j) : ∀ (n : Nat) (acc : Option Tr) (j : Int), i ≤ j → 0 ≤ j → (t.length : Int) - j < n → Tot t (.row acc) j
 | 0, acc, j, _, h0, h, d => ⟨_, .rowZ (by omega)⟩
 | n + 1, acc, j, hi, h0, h, d => by
  by_cases hl : j < t.length
  ·by_cases h1 : nx t j = 124 ∨ nx t j = 38 ∨ nx t j = 45 ∨ nx t j = 41
   ·exact ⟨_, .rowZ (by omega)⟩
   by_cases h2 : nx t j = 42 ∨ nx t j = 43 ∨ nx t j = 63 ∨ nx t j = 123
   ·exact ⟨_, .rowB hl h2⟩
   by_cases h3 : nx t j = 40
   ·by_cases hd : d < 1000
    ·obtain ⟨q, hq⟩ := hA (j + 1) (by omega) (d + 1)
     cases q with
     | error e => exact ⟨_, .rowPE hl h3 hd hq⟩
     | ok p =>
      obtain ⟨x, k⟩ := p
      have hk := hq.ends (by omega) (by omega) _ _ rfl
      by_cases hkl : k < t.length
      ·obtain ⟨q2, hq2⟩ := RP.tot t x (j := k + 1) (by omega)
       cases q2 with
       | error e => exact ⟨_, .rowPR hl h3 hd hq hkl hq2⟩
       | ok p2 =>
        obtain ⟨y, l⟩ := p2
        have hl2 := hq2.ends (by omega) (by omega) _ _ rfl
        obtain ⟨r, hr⟩ := akg hA n (amw acc y) l (by omega) (by omega) (by omega) d
        exact ⟨r, .rowP hl h3 hd hq hkl hq2 hr⟩
      ·exact ⟨_, .rowO hl h3 hd hq hkl⟩
    ·exact ⟨_, .rowN hl h3 (by omega)⟩
   ·have hc : nx t j ∉ [124, 38, 45, 41, 42, 43, 63, 123, 40] := by simp; omega
    rcases hm : l8 t j with ⟨s, k, e, p⟩
    by_cases hz : e = 0 ∧ p = 0
    ·obtain ⟨rfl, rfl⟩ := hz
     have hk := ag1 hm h0
     obtain ⟨q2, hq2⟩ := RP.tot t (.cls s) (j := k) (by omega)
     cases q2 with
     | error e => exact ⟨_, .rowCR hl hc hm hq2⟩
     | ok p2 =>
      obtain ⟨y, l⟩ := p2
      have hl2 := hq2.ends (by omega) (by omega) _ _ rfl
      obtain ⟨r, hr⟩ := akg hA n (amw acc y) l (by omega) (by omega) (by omega) d
      exact ⟨r, .rowC hl hc hm hq2 hr⟩
    ·exact ⟨_, .rowCE hl hc hm hz⟩
  ·exact ⟨_, .rowZ (by omega)⟩
theorem akq {t : List UInt8} {i : Int} (hR : ∀ j, i ≤ j → 0 ≤ j → Tot t (.row none) j) : ∀ (n : Nat) (x : Tr) (j : Int), i ≤ j → 0 ≤ j → (t.length : Int) - j < n → Tot t (.meetL x) j
 | 0, x, j, _, h0, h, d => ⟨_, .meetZ (by omega)⟩
 | n + 1, x, j, hi, h0, h, d => by
  by_cases hc : j < t.length ∧ (nx t j = 38 ∨ nx t j = 45)
  ·obtain ⟨q, hq⟩ := hR (j + 1) (by omega) (by omega) d
   cases q with
   | error e => exact ⟨_, .meetLE hc.1 hc.2 hq⟩
   | ok p =>
    obtain ⟨y, k⟩ := p
    have hk := hq.ends (by omega) (by omega) _ _ rfl
    obtain ⟨r, hr⟩ := akq hR n (ary (nx t j) x y) k (by omega) (by omega) (by omega) d
    exact ⟨r, .meetL hc.1 hc.2 hq hr⟩
  ·exact ⟨_, .meetZ hc⟩
theorem al0 {t : List UInt8} {i : Int} (hM : ∀ j, i ≤ j → 0 ≤ j → Tot t .meet j) : ∀ (n : Nat) (x : Tr) (j : Int), i ≤ j → 0 ≤ j → (t.length : Int) - j < n → Tot t (.altL x) j
 | 0, x, j, _, h0, h, d => ⟨_, .altZ (by omega)⟩
 | n + 1, x, j, hi, h0, h, d => by
  by_cases hc : j < t.length ∧ nx t j = 124
  ·obtain ⟨q, hq⟩ := hM (j + 1) (by omega) (by omega) d
   cases q with
   | error e => exact ⟨_, .altLE hc.1 hc.2 hq⟩
   | ok p =>
    obtain ⟨y, k⟩ := p
    have hk := hq.ends (by omega) (by omega) _ _ rfl
    obtain ⟨r, hr⟩ := al0 hM n (.alt x y) k (by omega) (by omega) (by omega) d
    exact ⟨r, .altL hc.1 hc.2 hq hr⟩
  ·exact ⟨_, .altZ hc⟩
theorem ao5 (t : List UInt8) : ∀ (n : Nat) (i : Int), 0 ≤ i → (t.length : Int) - i < n → Tot t .alt i
 | 0, i, h0, h, d => ⟨_, .alt (.meet (.rowZ (by omega)) (.meetZ (by omega))) (.altZ (by omega))⟩
 | n + 1, i, h0, h, d => by
  have hA : ∀ j, i < j → Tot t .alt j := fun j hj => ao5 t n j (by omega) (by omega)
  have hR : ∀ j, i ≤ j → 0 ≤ j → Tot t (.row none) j := fun j hj h0 => akg hA ((t.length : Int) - j + 1).toNat none j hj h0 (by omega)
  have hM : ∀ j, i ≤ j → 0 ≤ j → Tot t .meet j := fun j hj h0 d => by
   obtain ⟨q, hq⟩ := hR j hj h0 d
   cases q with
   | error e => exact ⟨_, .meetE hq⟩
   | ok p =>
    obtain ⟨x, k⟩ := p
    by_cases hjl : j ≤ t.length
    ·have hk := hq.ends (by omega) (by omega) _ _ rfl
     obtain ⟨r, hr⟩ := akq hR ((t.length : Int) - k + 1).toNat x k (by omega) (by omega) (by omega) d
     exact ⟨r, .meet hq hr⟩
    ·have : k = j := by cases hq with
      | rowZ => rfl
      | _ => omega
     exact ⟨_, .meet hq (.meetZ (by omega))⟩
  obtain ⟨q, hq⟩ := hM i (by omega) h0 d
  cases q with
  | error e => exact ⟨_, .altE hq⟩
  | ok p =>
   obtain ⟨x, k⟩ := p
   by_cases hil : i ≤ t.length
   ·have hk := hq.ends (by omega) (by omega) _ _ rfl
    obtain ⟨r, hr⟩ := al0 hM ((t.length : Int) - k + 1).toNat x k (by omega) (by omega) (by omega) d
    exact ⟨r, .alt hq hr⟩
   ·exact ⟨_, .alt (.meet (.rowZ (by omega)) (.meetZ (by omega))) (.altZ (by omega))⟩
def Tr.solid : Tr → Prop
 | .none => False
 | .eps | .cls _ => True
 | .cat a b => a.solid ∧ b.solid
 | .alt a b => a.solid ∧ b.solid
 | .star a => a.solid
 | .and a b => a.solid ∧ b.solid
 | .minus a b => a.solid ∧ b.solid
theorem aic {y : Tr} (hy : y.solid) : ∀ (k : Nat) {x : Tr}, x.solid → (ado x y k).solid
 | 0, _, hx => hx
 | k + 1, _, hx => aic hy k ⟨hx, hy⟩
theorem aq5 {x : Tr} (h : x.solid) (m n : Int) : (aal x m n).solid := by
 unfold aal
 split
 ·exact h
 ·split
  ·exact trivial
  ·have h1 : (if m = 0 then Tr.alt x .eps else x).solid := by split <;> first | exact ⟨h, trivial⟩ | exact h
   have h2 := aic h (m - 1).toNat h1
   simp only
   split
   ·exact ⟨h2, h⟩
   ·exact aic (y := .alt x .eps) ⟨h, trivial⟩ _ h2
theorem aon {t : List UInt8} {x y : Tr} {j k : Int} (h : z7 t x j = .ok (y, k)) (hx : x.solid) : y.solid := by
 unfold z7 at h
 split at h
 ·cases h
 ·split at h
  ·cases h
  ·split at h
   ·split at h
    ·cases h
    ·simp only [Except.ok.injEq, Prod.mk.injEq] at h
     rw [← h.1]; exact aq5 hx _ _
   ·cases h
theorem RP.solid {t : List UInt8} {x : Tr} {j : Int} {r : aex} (h : RP t x j r) : x.solid → ∀ y k, r = .ok (y, k) → y.solid := by
 induction h with
 | zero => intro hx y k e; cases e; exact hx
 | one h1 h2 _ ih =>
  intro hx y k e
  refine ih ?_ y k e
  unfold ak2
  split
  ·exact hx
  ·split
   ·exact ⟨hx, hx⟩
   ·exact ⟨hx, trivial⟩
 | brace h1 h2 h3 _ ih => intro hx y k e; exact ih (aon h3 hx) y k e
 | braceE => intro hx y k e; cases e
def Md.solid : Md → Prop
 | .altL x => x.solid
 | .meetL x => x.solid
 | .row (some x) => x.solid
 | _ => True
theorem amy {acc : Option Tr} {y : Tr} (h : (Md.row acc).solid) (hy : y.solid) : (Md.row (amw acc y)).solid := by
 cases acc with
 | none => exact hy
 | some x => exact ⟨h, hy⟩
theorem PR.solid {t : List UInt8} {m : Md} {d : Nat} {i : Int} {r : aex} (h : PR t m d i r) : m.solid → ∀ y k, r = .ok (y, k) → y.solid := by
 induction h with
 | alt _ _ ih1 ih2 => intro _ y k e; exact ih2 (ih1 trivial _ _ rfl) y k e
 | altL _ _ _ _ ih1 ih2 => intro h y k e; exact ih2 ⟨h, ih1 trivial _ _ rfl⟩ y k e
 | «meet» _ _ ih1 ih2 => intro _ y k e; exact ih2 (ih1 trivial _ _ rfl) y k e
 | meetL h1 h2 _ _ ih1 ih2 =>
  intro h y k e
  refine ih2 ?_ y k e
  have := ih1 trivial _ _ rfl
  unfold ary
  show Tr.solid _
  split <;> exact ⟨h, this⟩
 | altZ _ => intro h y k e; cases e; exact h
 | meetZ _ => intro h y k e; cases e; exact h
 | @rowZ d acc j _ => intro h y k e; cases e; cases acc <;> first | exact trivial | exact h
 | rowC h1 h2 h3 h4 _ ih => intro h y k e; exact ih (amy h (h4.solid trivial _ _ rfl)) y k e
 | rowP h1 h2 h3 _ h5 h6 _ ih1 ih2 => intro h y k e; exact ih2 (amy h (h6.solid (ih1 trivial _ _ rfl) _ _ rfl)) y k e
 | _ => intro _ y k e; cases e
theorem Tr.solid_some {x : Tr} (h : x.solid) : x.isNone = false := by cases x <;> first | rfl | exact h.elim
theorem ao4 {t : List UInt8} {j : Int} {s : CS} {k e p : Int} (h : l8 t j = (s, k, e, p)) (hz : ¬ (e = 0 ∧ p = 0)) : 0 < e := by
 unfold l8 at h
 split at h
 ·simp only [Prod.mk.injEq] at h; omega
 ·split at h
  ·simp only [Prod.mk.injEq] at h; omega
  ·simp only [Prod.mk.injEq] at h; omega
theorem ari {t : List UInt8} {j : Int} {e : Int × Int} (h : acr t j = .error e) : 0 < e.1 := by
 unfold acr at h
 split at h
 ·cases h; (simp only []; omega)
 ·cases h
theorem asd {t : List UInt8} {x : Tr} {j : Int} {e : Int × Int} (h : z7 t x j = .error e) : 0 < e.1 := by
 unfold z7 at h
 split at h
 ·rename_i hm; cases h; exact ari hm
 ·split at h
  ·rename_i hc
   cases h
   unfold ads at hc
   split at hc
   ·split at hc
    ·cases hc
    ·exact ari hc
   ·cases hc
  ·split at h
   ·split at h
    ·cases h; (simp only []; omega)
    ·cases h
   ·cases h; (simp only []; omega)
theorem RP.err {t : List UInt8} {x : Tr} {j : Int} {r : aex} (h : RP t x j r) : ∀ e, r = .error e → 0 < e.1 := by
 induction h with
 | zero => intro e he; cases he
 | one _ _ _ ih => exact ih
 | brace _ _ _ _ ih => exact ih
 | braceE _ _ h3 => intro e he; cases he; exact asd h3
theorem PR.err {t : List UInt8} {m : Md} {d : Nat} {i : Int} {r : aex} (h : PR t m d i r) : ∀ e, r = .error e → 0 < e.1 := by
 induction h with
 | alt _ _ _ ih => exact ih
 | altE _ ih => intro e he; cases he; exact ih _ rfl
 | altL _ _ _ _ _ ih => exact ih
 | altLE _ _ _ ih => intro e he; cases he; exact ih _ rfl
 | altZ => intro e he; cases he
 | «meet» _ _ _ ih => exact ih
 | meetE _ ih => intro e he; cases he; exact ih _ rfl
 | meetL _ _ _ _ _ ih => exact ih
 | meetLE _ _ _ ih => intro e he; cases he; exact ih _ rfl
 | meetZ => intro e he; cases he
 | rowZ => intro e he; cases he
 | rowB => intro e he; cases he; show (0 : Int) < 20; decide
 | rowC _ _ _ _ _ ih => exact ih
 | rowCR _ _ _ h4 => intro e he; cases he; exact h4.err _ rfl
 | rowCE _ _ h3 hz => intro e he; cases he; exact ao4 h3 hz
 | rowN => intro e he; cases he; show (0 : Int) < 23; decide
 | rowP _ _ _ _ _ _ _ _ ih => exact ih
 | rowPR _ _ _ _ _ h6 => intro e he; cases he; exact h6.err _ rfl
 | rowPE _ _ _ _ ih => intro e he; cases he; exact ih _ rfl
 | rowO => intro e he; cases he; show (0 : Int) < 21; decide
def ard (t : List UInt8) (R : Except (Int × Int) Tr) : Prop := ∃ q, PR t .alt 0 0 q ∧ match q with
 | .error e => R = .error e
 | .ok (x, k) => if k < t.length then R = .error (20, k) else R = .ok x
theorem ard.total (t : List UInt8) : ∃ R, ard t R := by
 obtain ⟨q, hq⟩ := ao5 t (t.length + 1) 0 (by omega) (by omega) 0
 cases q with
 | error e => exact ⟨_, _, hq, rfl⟩
 | ok p =>
  obtain ⟨x, k⟩ := p
  by_cases hk : k < t.length
  ·exact ⟨.error (20, k), _, hq, by simp only [if_pos hk]⟩
  ·exact ⟨.ok x, _, hq, by simp only [if_neg hk]⟩
theorem ard.det {t : List UInt8} {R R' : Except (Int × Int) Tr} (h : ard t R) (h' : ard t R') : R = R' := by
 obtain ⟨q, h1, h2⟩ := h
 obtain ⟨q', g1, g2⟩ := h'
 obtain rfl := h1.det g1
 cases q with
 | error e => rw [h2, g2]
 | ok p =>
  obtain ⟨x, k⟩ := p
  simp only at h2 g2
  split at h2
  ·rename_i hk; rw [if_pos hk] at g2; rw [h2, g2]
  ·rename_i hk; rw [if_neg hk] at g2; rw [h2, g2]
noncomputable def af3 (t : List UInt8) : Except (Int × Int) Tr := Classical.choose (ard.total t)
theorem ahk (t : List UInt8) : ard t (af3 t) := Classical.choose_spec (ard.total t)
theorem ai7 {t : List UInt8} {R : Except (Int × Int) Tr} (h : ard t R) : af3 t = R := (ahk t).det h
noncomputable def w7 (t : List UInt8) : Except (Int × Int) Tr :=
 if 1048576 < t.length then .error (1, 0) else match af3 t with
  | .error e => .error e
  | .ok x => if 2000 < x.size then .error (24, 0) else .ok x
noncomputable def b8 (t : List UInt8) : Tr := match w7 t with
 | .ok x => x
 | .error _ => .none
noncomputable def m3 (t : List UInt8) : Int × Int := match w7 t with
 | .ok _ => (0, 0)
 | .error e => e
theorem aj8 {t : List UInt8} {x : Tr} (h : w7 t = .ok x) : t.length ≤ 1048576 ∧ x.size ≤ 2000 ∧ x.solid ∧ PR t .alt 0 0 (.ok (x, t.length)) := by
 unfold w7 at h
 split at h
 ·cases h
 ·rename_i hl
  split at h
  ·cases h
  ·rename_i y hy
   split at h
   ·cases h
   ·rename_i hz
    obtain rfl : y = x := by injection h
    obtain ⟨q, q1, q2⟩ := hy ▸ ahk t
    cases q with
    | error e => cases q2
    | ok p =>
     obtain ⟨z, k⟩ := p
     simp only at q2
     have hk := q1.ends (by omega) (by omega) _ _ rfl
     split at q2
     ·cases q2
     ·obtain rfl : y = z := by injection q2
      refine ⟨by omega, by omega, q1.solid trivial _ _ rfl, ?_⟩
      rw [show (t.length : Int) = k by omega]; exact q1
theorem auw {t : List UInt8} {e : Int × Int} (h : w7 t = .error e) : 0 < e.1 := by
 unfold w7 at h
 split at h
 ·cases h; (simp only []; omega)
 ·split at h
  ·rename_i e' hy
   cases h
   obtain ⟨q, q1, q2⟩ := hy ▸ ahk t
   cases q with
   | error e2 => cases q2; exact q1.err _ rfl
   | ok p =>
    obtain ⟨z, k⟩ := p
    simp only at q2
    split at q2
    ·cases q2; (simp only []; omega)
    ·cases q2
  ·split at h
   ·cases h; (simp only []; omega)
   ·cases h
theorem ape {t : List UInt8} (h : (m3 t).1 = 0) : ∃ x, w7 t = .ok x ∧ b8 t = x := by
 unfold m3 at h
 unfold b8
 cases hp : w7 t with
 | ok x => exact ⟨x, rfl, rfl⟩
 | error e => rw [hp] at h; have := auw hp; simp only at h; omega
theorem aqp {t : List UInt8} {x : Tr} (h : w7 t = .ok x) : m3 t = (0, 0) ∧ b8 t = x := by
 unfold m3 b8; rw [h]; exact ⟨rfl, rfl⟩
end Go.Proofs.YtffhedoahdgniaaDoor
