/-
  Merged: RxC, RxP.
-/
import Derived.Test.YtohnchdnkbadaaaDoorPa9
set_option maxRecDepth 100000
namespace Go.Proofs.YtohnchdnkbadaaaDoor
open Go Go.RowKit
theorem acn : l9 Tryd.prog 79 1 = some 1 := by kernel_rfl
theorem aet : abw Tryd.prog 77 = true := by kernel_rfl
theorem aql : abw Tryd.prog 162 = true := by kernel_rfl
theorem p9 : abm Tryd.prog 79 = some [zI 0, Value.nilFunc] := by kernel_rfl
theorem j6 : s8 Tryd.prog 79 2 = true := by kernel_rfl
theorem i8 : RowT Tryd.prog 79 2 := ⟨by kernel_rfl, by kernel_rfl⟩
theorem acs : l9 Tryd.prog 79 0 = some 0 := by kernel_rfl
theorem als : o6 Tryd.prog 116 = true := by kernel_rfl
theorem agr : Program.concrete Tryd.prog 49 = true := by kernel_rfl
theorem aex : o6 Tryd.prog 144 = true := by kernel_rfl
theorem abf : o6 Tryd.prog 78 = true := by kernel_rfl
theorem ae3 : o6 Tryd.prog 157 = true := by kernel_rfl
theorem agv : o6 Tryd.prog 158 = true := by kernel_rfl
def ai5 (B : List (Nat × Obj)) (u : Value) (x : Tr) : Prop := acu Tryd.prog B u [] x.val
def Is (B : List (Nat × Obj)) (n : Int) (u : Value) (x : Tr) : Prop := ai5 B u x ∧ n = min (x.size : Int) 2001
def w9 (n : Int) : Prop := 0 ≤ n ∧ n ≤ 1152921504606846976
def acd (B B' : List (Nat × Obj)) : Prop := ∀ p ∈ B, p ∈ B'
theorem acd.refl (B : List (Nat × Obj)) : acd B B := fun _ h => h
theorem acd.trans {B B' B2 : List (Nat × Obj)} (h : acd B B') (h' : acd B' B2) : acd B B2 := fun p hp => h' p (h p hp)
variable {B B' B2 : List (Nat × Obj)} {n sa sb : Int} {u a b : Value} {x y : Tr}
theorem ai5.more (h : ai5 B u x) (hs : acd B B') : ai5 B' u x := acu.more h hs
theorem Is.more (h : Is B n u x) (hs : acd B B') : Is B' n u x := ⟨h.1.more hs, h.2⟩
def abb (n : Int) (u : Value) : Prop := w9 n ∧ u.oneCell' = true
def amr (B B' : List (Nat × Obj)) (x : Tr) (n : Int) (u : Value) : Prop := acd B B' ∧ abb n u ∧ (x.size = 1 → Is B' n u x)
def amt (B B' : List (Nat × Obj)) (sa : Int) (a : Value) (n : Int) (u : Value) : Prop := acd B B' ∧ abb n u ∧ ∀ x, Is B sa a x → Is B' n u (.star x)
def ak0 (B B' : List (Nat × Obj)) (sa : Int) (a : Value) (n : Int) (u : Value) : Prop := acd B B' ∧ abb n u ∧ ∀ x, Is B sa a x → Is B' n u (.alt x .eps)
def aff (op : Tr → Tr → Tr) (B B' : List (Nat × Obj)) (sa : Int) (a : Value) (sb : Int) (b : Value) (n : Int) (u : Value) : Prop := acd B B' ∧ abb n u ∧ ∀ x y, Is B sa a x → Is B sb b y → Is B' n u (op x y)
def atb (B B' : List (Nat × Obj)) (sa : Int) (a : Value) (m k : Int) (n : Int) (u : Value) : Prop := acd B B' ∧ abb n u ∧ ∀ x, Is B sa a x → Is B' n u (aae x m k)
def anl (n : Int) (K : Int → Prop) : Prop :=
 K (min n 2001)
theorem aub  (n : Int) (K : Int → Prop) (h : anl n K) :
  c8 Tryd.prog 116 [zI n] [] [] (fun o => (∃ (v : Int), K v ∧ o = .ret (zI v) []) ∨ (False)) := by
 unfold anl at h
 refine c6 (n := 5) (L0 := [(0, zI n)]) Tryd.func116 rfl rfl rfl rfl (fun w0 M Q hE => ?_)
 refine a6 (fun _ hK => ?_)
 refine a4 ?_
 refine wa ?_
 refine WL.nil ?_
 refine kg (hK [(0, zI n)] _ ?_)
 refine a6 (fun _ hK_1' => ?_)
 refine a4 ?_
 refine wm ?_
 refine wv (OV.minI rfl rfl) ?_
 refine wa ?_
 refine WL.nil ?_
 refine kg (hK_1' [(2, zI (min n 2001))] _ ?_)
 refine b9 ?_
 exact hE.ret [] rfl rfl (.inl ⟨_, h, rfl⟩) (d8.of1 rfl (RV.tmp rfl))
theorem ai0 (n : Int) : c8 Tryd.prog 116 [.int .i64 n] [] [] (Ret (.int .i64 (min n 2001)) []) := c8.one (aub n (fun v => v = min n 2001) rfl)
def aqg (c : Tr) (_ : List (Nat × Obj)) (K : Tr → Prop) : Prop :=
 K c
theorem awn (b : Nat) (c : Tr) (B : List (Nat × Obj)) (hb : (b, .cells [Tr.val c].toArray 23 (0, 0)) ∈ B) (K : Tr → Prop) (h : aqg c B K) :
  c8 Tryd.prog 156 [zP b] B [] (fun o => (∃ (v : Tr), K v ∧ o = .ret (Tr.val v) []) ∨ (False)) := by
 unfold aqg at h
 refine c6 (n := 3) (L0 := [(0, zP b)]) Tryd.func156 rfl rfl rfl rfl (fun w0 M Q hE => ?_)
 refine a6 (fun _ hK => ?_)
 refine a4 ?_
 refine wa ?_
 refine WL.nil ?_
 refine kg (hK [(0, zP b)] _ ?_)
 refine a6 (fun _ hK_1' => ?_)
 refine a4 ?_
 refine wv (OV.load rfl (At.old hb) rfl j9) ?_
 refine wa ?_
 refine WL.nil ?_
 refine kg (hK_1' [(1, Tr.val c)] _ ?_)
 refine b9 ?_
 exact hE.ret [] rfl rfl (.inl ⟨_, h, rfl⟩) (d8.of1 rfl (RV.tmp rfl))
def ao9 (_ : Int) (c_1 : Value) (B : List (Nat × Obj)) (K : Tr → Prop) : Prop :=
 ∃ (y : Tr), (ai5 B c_1 y) ∧ (
 K (.star y))
theorem axq (b : Nat) (c_0 : Int) (c_1 : Value) (B : List (Nat × Obj)) (hb : (b, .cells [zI c_0, c_1].toArray 79 (0, 0)) ∈ B) (K : Tr → Prop) (h : ao9 c_0 c_1 B K) :
  c8 Tryd.prog 166 [zP b] B [] (fun o => (∃ (v : Tr), K v ∧ o = .ret (Tr.val v) []) ∨ (False)) := by
 unfold ao9 at h
 refine c6 (n := 7) (L0 := [(0, zP b)]) Tryd.func166 rfl rfl rfl rfl (fun w0 M Q hE => ?_)
 refine a6 (fun _ hK => ?_)
 refine a4 ?_
 refine wa ?_
 refine WL.nil ?_
 refine kg (hK [(0, zP b)] _ ?_)
 refine a6 (fun _ hK_1' => ?_)
 refine a4 ?_
 refine wv (OV.fieldAddr0 rfl acn) ?_
 refine wv (OV.load rfl (At.old hb) rfl aet) ?_
 obtain ⟨y, o, h⟩ := h
 refine WL.cv (CV.value rfl o rfl Rd.old) rfl rfl rfl ?_
 refine wv (OV.buildC (qs := [(0, [Tr.val y])]) (cs := [Tr.val y]) rfl ⟨rfl, Tr.val_cells _, trivial⟩ rfl) ?_
 refine wv (OV.cast (OV.iface rfl apd) (v' := Tr.val (.star y)) rfl) ?_
 refine wa ?_
 refine WL.nil ?_
 refine kg (hK_1' [(1, Tr.val (.star y))] _ ?_)
 refine b9 ?_
 exact hE.ret [] rfl rfl (.inl ⟨_, h, rfl⟩) (d8.of1 rfl (RV.tmp rfl))
def aoz (c : Value) (_ : Int) (c_1'_1 : Value) (_ : Int) (c_2'_1 : Value) (B : List (Nat × Obj)) (K : Tr → Prop) : Prop :=
 ∃ (y : Tr), (ai5 B c_1'_1 y) ∧ (
 ∃ (y_1' : Tr), (ai5 B c_2'_1 y_1') ∧ (
 ∃ (y_2' : Tr), (acu Tryd.prog [] c [Tr.val y, Tr.val y_1'] (Tr.val y_2')) ∧ (
 K y_2')))
theorem awe (b : Nat) (b_1' : Nat) (b_2' : Nat) (c : Value) (c_1'_0 : Int) (c_1'_1 : Value) (c_2'_0 : Int) (c_2'_1 : Value) (B : List (Nat × Obj)) (hb : (b, .cells [c].toArray 162 (0, 0)) ∈ B) (hb_1' : (b_1', .cells [zI c_1'_0, c_1'_1].toArray 79 (0, 0)) ∈ B) (hb_2' : (b_2', .cells [zI c_2'_0, c_2'_1].toArray 79 (0, 0)) ∈ B) (K : Tr → Prop) (h : aoz c c_1'_0 c_1'_1 c_2'_0 c_2'_1 B K) :
  c8 Tryd.prog 117 [zP b, zP b_1', zP b_2'] B [] (fun o => (∃ (v : Tr), K v ∧ o = .ret (Tr.val v) []) ∨ (False)) := by
 unfold aoz at h
 refine c6 (n := 12) (L0 := [(0, zP b), (1, zP b_1'), (2, zP b_2')]) Tryd.func117 rfl rfl rfl rfl (fun w0 M Q hE => ?_)
 refine a6 (fun _ hK => ?_)
 refine a4 ?_
 refine wa ?_
 refine WL.nil ?_
 refine kg (hK [(0, zP b), (1, zP b_1'), (2, zP b_2')] _ ?_)
 refine a6 (fun _ hK_1' => ?_)
 refine n9 7 [] f0 (by kernel_rfl) rfl (fun T hT => ?_)
 refine fv (fun _ => OV.load rfl (At.old hb) rfl aql) ?_
 refine fv (fun _ => OV.fieldAddr0 rfl acn) ?_
 refine fv (fun _ => OV.load rfl (At.old hb_1') rfl aet) ?_
 obtain ⟨y, o, h⟩ := h
 refine FL.cv (fun _ => CV.value rfl o rfl Rd.old) rfl rfl (fun _ => rfl) rfl ?_
 refine fv (fun _ => OV.fieldAddr0 rfl acn) ?_
 refine fv (fun _ => OV.load rfl (At.old hb_2') rfl aet) ?_
 obtain ⟨y_1', o_1', h⟩ := h
 refine FL.cv (fun _ => CV.value rfl o_1' rfl Rd.old) rfl rfl (fun _ => rfl) rfl ?_
 refine FL.weak (L' := fun γ => [(4, c), (7, Tr.val y), (10, Tr.val y_1')]) (fun γ => ⟨rfl, rfl, rfl, trivial⟩) (FL.nil (hT (fun γ => [(4, c), (7, Tr.val y), (10, Tr.val y_1')]) (fun γ => ?_)))
 obtain ⟨y_2', o_2', h⟩ := h
 refine WL.cv (CV.value rfl o_2' rfl (Rd.nil)) rfl rfl rfl ?_
 refine wa ?_
 refine WL.nil ?_
 refine kg (hK_1' [(3, Tr.val y_2')] _ ?_)
 refine b9 ?_
 exact hE.ret [] rfl rfl (.inl ⟨_, h, rfl⟩) (d8.of1 rfl (RV.tmp rfl))
def aqk (a : Tr) (b : Tr) (K : Tr → Prop) : Prop :=
 K (.cat a b)
theorem aw6  (a : Tr) (b : Tr) (K : Tr → Prop) (h : aqk a b K) :
  c8 Tryd.prog 147 [Tr.val a, Tr.val b] [] [] (fun o => (∃ (v : Tr), K v ∧ o = .ret (Tr.val v) []) ∨ (False)) := by
 unfold aqk at h
 refine c6 (n := 9) (L0 := [(0, Tr.val a), (1, Tr.val b)]) Tryd.func147 rfl rfl rfl rfl (fun w0 M Q hE => ?_)
 refine a6 (fun _ hK => ?_)
 refine a4 ?_
 refine wa ?_
 refine WL.nil ?_
 refine kg (hK [(0, Tr.val a), (1, Tr.val b)] _ ?_)
 refine a6 (fun _ hK_1' => ?_)
 refine a4 ?_
 refine wm ?_
 refine wm ?_
 refine wv (OV.buildC (qs := [(0, [Tr.val a]), (1, [Tr.val b])]) (cs := [Tr.val a, Tr.val b]) rfl ⟨rfl, Tr.val_cells _, ⟨rfl, Tr.val_cells _, trivial⟩⟩ rfl) ?_
 refine wv (OV.cast (OV.iface rfl atd) (v' := Tr.val (.cat a b)) rfl) ?_
 refine wa ?_
 refine WL.nil ?_
 refine kg (hK_1' [(4, Tr.val (.cat a b))] _ ?_)
 refine b9 ?_
 exact hE.ret [] rfl rfl (.inl ⟨_, h, rfl⟩) (d8.of1 rfl (RV.tmp rfl))
def ao2 (a : Tr) (b : Tr) (K : Tr → Prop) : Prop :=
 K (.alt a b)
theorem aw2  (a : Tr) (b : Tr) (K : Tr → Prop) (h : ao2 a b K) :
  c8 Tryd.prog 79 [Tr.val a, Tr.val b] [] [] (fun o => (∃ (v : Tr), K v ∧ o = .ret (Tr.val v) []) ∨ (False)) := by
 unfold ao2 at h
 refine c6 (n := 9) (L0 := [(0, Tr.val a), (1, Tr.val b)]) Tryd.func79 rfl rfl rfl rfl (fun w0 M Q hE => ?_)
 refine a6 (fun _ hK => ?_)
 refine a4 ?_
 refine wa ?_
 refine WL.nil ?_
 refine kg (hK [(0, Tr.val a), (1, Tr.val b)] _ ?_)
 refine a6 (fun _ hK_1' => ?_)
 refine a4 ?_
 refine wm ?_
 refine wm ?_
 refine wv (OV.buildC (qs := [(0, [Tr.val a]), (1, [Tr.val b])]) (cs := [Tr.val a, Tr.val b]) rfl ⟨rfl, Tr.val_cells _, ⟨rfl, Tr.val_cells _, trivial⟩⟩ rfl) ?_
 refine wv (OV.cast (OV.iface rfl apl) (v' := Tr.val (.alt a b)) rfl) ?_
 refine wa ?_
 refine WL.nil ?_
 refine kg (hK_1' [(4, Tr.val (.alt a b))] _ ?_)
 refine b9 ?_
 exact hE.ret [] rfl rfl (.inl ⟨_, h, rfl⟩) (d8.of1 rfl (RV.tmp rfl))
def apf (a : Tr) (b : Tr) (K : Tr → Prop) : Prop :=
 K (.and a b)
theorem awr  (a : Tr) (b : Tr) (K : Tr → Prop) (h : apf a b K) :
  c8 Tryd.prog 114 [Tr.val a, Tr.val b] [] [] (fun o => (∃ (v : Tr), K v ∧ o = .ret (Tr.val v) []) ∨ (False)) := by
 unfold apf at h
 refine c6 (n := 9) (L0 := [(0, Tr.val a), (1, Tr.val b)]) Tryd.func114 rfl rfl rfl rfl (fun w0 M Q hE => ?_)
 refine a6 (fun _ hK => ?_)
 refine a4 ?_
 refine wa ?_
 refine WL.nil ?_
 refine kg (hK [(0, Tr.val a), (1, Tr.val b)] _ ?_)
 refine a6 (fun _ hK_1' => ?_)
 refine a4 ?_
 refine wm ?_
 refine wm ?_
 refine wv (OV.buildC (qs := [(0, [Tr.val a]), (1, [Tr.val b])]) (cs := [Tr.val a, Tr.val b]) rfl ⟨rfl, Tr.val_cells _, ⟨rfl, Tr.val_cells _, trivial⟩⟩ rfl) ?_
 refine wv (OV.cast (OV.iface rfl aoy) (v' := Tr.val (.and a b)) rfl) ?_
 refine wa ?_
 refine WL.nil ?_
 refine kg (hK_1' [(4, Tr.val (.and a b))] _ ?_)
 refine b9 ?_
 exact hE.ret [] rfl rfl (.inl ⟨_, h, rfl⟩) (d8.of1 rfl (RV.tmp rfl))
def al0 (a : Tr) (b : Tr) (K : Tr → Prop) : Prop :=
 K (.minus a b)
theorem ark  (a : Tr) (b : Tr) (K : Tr → Prop) (h : al0 a b K) :
  c8 Tryd.prog 115 [Tr.val a, Tr.val b] [] [] (fun o => (∃ (v : Tr), K v ∧ o = .ret (Tr.val v) []) ∨ (False)) := by
 unfold al0 at h
 refine c6 (n := 9) (L0 := [(0, Tr.val a), (1, Tr.val b)]) Tryd.func115 rfl rfl rfl rfl (fun w0 M Q hE => ?_)
 refine a6 (fun _ hK => ?_)
 refine a4 ?_
 refine wa ?_
 refine WL.nil ?_
 refine kg (hK [(0, Tr.val a), (1, Tr.val b)] _ ?_)
 refine a6 (fun _ hK_1' => ?_)
 refine a4 ?_
 refine wm ?_
 refine wm ?_
 refine wv (OV.buildC (qs := [(0, [Tr.val a]), (1, [Tr.val b])]) (cs := [Tr.val a, Tr.val b]) rfl ⟨rfl, Tr.val_cells _, ⟨rfl, Tr.val_cells _, trivial⟩⟩ rfl) ?_
 refine wv (OV.cast (OV.iface rfl aqc) (v' := Tr.val (.minus a b)) rfl) ?_
 refine wa ?_
 refine WL.nil ?_
 refine kg (hK_1' [(4, Tr.val (.minus a b))] _ ?_)
 refine b9 ?_
 exact hE.ret [] rfl rfl (.inl ⟨_, h, rfl⟩) (d8.of1 rfl (RV.tmp rfl))
def awp (f : FuncId) (op : Tr → Tr → Tr) : Prop := (∀ x y, acu Tryd.prog [] (.func (.func f) #[] ([] : List Value).toArray) [Tr.val x, Tr.val y] (Tr.val (op x y))) ∧ ∀ x y, (op x y).size = 1 + x.size + y.size
theorem Tr.cat_op : awp 147 Tr.cat := ⟨fun x y => acu.func (by kernel_rfl) (c8.one (aw6 x y (fun v => v = .cat x y) rfl)), fun _ _ => rfl⟩
theorem Tr.alt_op : awp 79 Tr.alt := ⟨fun x y => acu.func (by kernel_rfl) (c8.one (aw2 x y (fun v => v = .alt x y) rfl)), fun _ _ => rfl⟩
theorem Tr.and_op : awp 114 Tr.and := ⟨fun x y => acu.func (by kernel_rfl) (c8.one (awr x y (fun v => v = .and x y) rfl)), fun _ _ => rfl⟩
theorem Tr.minus_op : awp 115 Tr.minus := ⟨fun x y => acu.func (by kernel_rfl) (c8.one (ark x y (fun v => v = .minus x y) rfl)), fun _ _ => rfl⟩
def aty (n : Tr) (B : List (Nat × Obj)) (K : Int → Value → (List (Nat × Obj)) → Prop) : Prop :=
 ∀ (b : Nat), K 1 (Value.func (.func 156) #[] [zP b].toArray) ((b, .cells [Tr.val n].toArray 23 (0, 0)) :: B)
theorem axt  (n : Tr) (B : List (Nat × Obj)) (K : Int → Value → (List (Nat × Obj)) → Prop) (h : aty n B K) :
  c8 Tryd.prog 144 [Tr.val n] [] [pool B] (fun o => (∃ (v_0 : Int) (v_1 : Value) (D : List (Nat × Obj)), K v_0 v_1 D ∧ o = .ret (Value.agg [zI v_0, v_1].toArray) [pool D]) ∨ (False)) := by
 unfold aty at h
 refine c6 (n := 5) (L0 := [(0, Tr.val n)]) Tryd.func144 rfl rfl rfl rfl (fun w0 M Q hE => ?_)
 refine a6 (fun _ hK => ?_)
 refine a4 ?_
 refine WL.make (MV.box (cs := [Tr.val n]) rfl (Tr.val_cells _)) rfl rfl rfl (fun b => ?_)
 refine WL.make (MV.alloc p9) rfl rfl rfl (fun b_1' => ?_)
 refine WL.nil ?_
 refine kg (hK [(1, zP b), (2, zP b_1')] _ ?_)
 refine a6 (fun _ hK_1' => ?_)
 refine a4 ?_
 refine wv (OV.makeFunc rfl) ?_
 refine wv (OV.build rfl (cs := [zI 1, Value.func (.func 156) #[] [zP b].toArray]) rfl) ?_
 refine WL.storeW (vs := [zI 1, Value.func (.func 156) #[] [zP b].toArray]) 0 rfl rfl rfl rfl rfl j6 rfl rfl rfl ?_
 refine WL.nil ?_
 refine kg (hK_1' [(2, zP b_1')] _ ?_)
 refine b9 ?_
 refine QX.pick (H' := [HA.blk b (.cells [Tr.val n].toArray 23 (0, 0)), pool B, HA.blk b_1' (.cells [zI 1, Value.func (.func 156) #[] [zP b].toArray].toArray 79 (0, 0))]) [1, 2, 0] rfl rfl ?_
 refine QX.absorb ?_
 exact hE.ret [0] rfl rfl (.inl ⟨_, _, _, (h b), rfl⟩) (d8.of1 rfl (RV.row rfl (At.own 1 rfl) i8))
def atu (a_0 : Int) (a_1 : Value) (B : List (Nat × Obj)) (K : Int → Value → (List (Nat × Obj)) → Prop) : Prop :=
 (I64 (1 + a_0)) ∧
 ∀ (b : Nat), K (min (1 + a_0) 2001) (Value.func (.func 166) #[] [zP b].toArray) ((b, .cells [zI a_0, a_1].toArray 79 (0, 0)) :: B)
theorem ax4  (a_0 : Int) (a_1 : Value) (B : List (Nat × Obj)) (K : Int → Value → (List (Nat × Obj)) → Prop) (h : atu a_0 a_1 B K) :
  c8 Tryd.prog 157 [Value.agg [zI a_0, a_1].toArray] [] [pool B] (fun o => (∃ (v_0 : Int) (v_1 : Value) (D : List (Nat × Obj)), K v_0 v_1 D ∧ o = .ret (Value.agg [zI v_0, v_1].toArray) [pool D]) ∨ (False)) := by
 unfold atu at h
 refine c6 (n := 9) (L0 := [(0, Value.agg [zI a_0, a_1].toArray)]) Tryd.func157 rfl rfl rfl rfl (fun w0 M Q hE => ?_)
 refine a6 (fun _ hK => ?_)
 refine a4 ?_
 refine WL.make (MV.box (cs := [zI a_0, a_1]) rfl rfl) rfl rfl rfl (fun b => ?_)
 refine WL.make (MV.alloc p9) rfl rfl rfl (fun b_1' => ?_)
 refine WL.nil ?_
 refine kg (hK [(1, zP b), (2, zP b_1')] _ ?_)
 refine a6 (fun _ hK_1' => ?_)
 refine a4 ?_
 refine wv (OV.fieldAddr0 rfl acs) ?_
 refine wv (OV.load rfl (At.own 1 rfl) rfl a7) ?_
 obtain ⟨o, h⟩ := h
 refine wv (OV.add rfl rfl o) ?_
 refine WL.call (A := []) als rfl (ai0 (1 + a_0)) rfl trivial rfl rfl ?_
 refine wv (OV.makeFunc rfl) ?_
 refine wv (OV.build rfl (cs := [zI (min (1 + a_0) 2001), Value.func (.func 166) #[] [zP b].toArray]) rfl) ?_
 refine WL.storeW (vs := [zI (min (1 + a_0) 2001), Value.func (.func 166) #[] [zP b].toArray]) 0 rfl rfl rfl rfl rfl j6 rfl rfl rfl ?_
 refine WL.nil ?_
 refine kg (hK_1' [(2, zP b_1')] _ ?_)
 refine b9 ?_
 refine QX.pick (H' := [HA.blk b (.cells [zI a_0, a_1].toArray 79 (0, 0)), pool B, HA.blk b_1' (.cells [zI (min (1 + a_0) 2001), Value.func (.func 166) #[] [zP b].toArray].toArray 79 (0, 0))]) [1, 2, 0] rfl rfl ?_
 refine QX.absorb ?_
 exact hE.ret [0] rfl rfl (.inl ⟨_, _, _, (h b), rfl⟩) (d8.of1 rfl (RV.row rfl (At.own 1 rfl) i8))
def atk (a_0 : Int) (a_1 : Value) (b_0 : Int) (b_1 : Value) (make2 : Value) (B : List (Nat × Obj)) (K : Int → Value → (List (Nat × Obj)) → Prop) : Prop :=
 (make2.oneCell' = true) ∧
 (I64 (1 + a_0)) ∧
 (I64 ((1 + a_0) + b_0)) ∧
 ∀ (b_3' b_1' b_2' : Nat), K (min ((1 + a_0) + b_0) 2001) (Value.func (.func 117) #[] [zP b_3', zP b_1', zP b_2'].toArray) ((b_3', .cells [make2].toArray 162 (0, 0)) :: ((b_1', .cells [zI a_0, a_1].toArray 79 (0, 0)) :: ((b_2', .cells [zI b_0, b_1].toArray 79 (0, 0)) :: B)))
theorem ax9  (a_0 : Int) (a_1 : Value) (b_0 : Int) (b_1 : Value) (make2 : Value) (B : List (Nat × Obj)) (K : Int → Value → (List (Nat × Obj)) → Prop) (h : atk a_0 a_1 b_0 b_1 make2 B K) :
  c8 Tryd.prog 78 [Value.agg [zI a_0, a_1].toArray, Value.agg [zI b_0, b_1].toArray, make2] [] [pool B] (fun o => (∃ (v_0 : Int) (v_1 : Value) (D : List (Nat × Obj)), K v_0 v_1 D ∧ o = .ret (Value.agg [zI v_0, v_1].toArray) [pool D]) ∨ (False)) := by
 unfold atk at h
 refine c6 (n := 16) (L0 := [(0, Value.agg [zI a_0, a_1].toArray), (1, Value.agg [zI b_0, b_1].toArray), (2, make2)]) Tryd.func78 rfl rfl rfl rfl (fun w0 M Q hE => ?_)
 refine a6 (fun _ hK => ?_)
 refine a4 ?_
 refine WL.make (MV.box (cs := [zI a_0, a_1]) rfl rfl) rfl rfl rfl (fun b_1' => ?_)
 refine WL.make (MV.box (cs := [zI b_0, b_1]) rfl rfl) rfl rfl rfl (fun b_2' => ?_)
 obtain ⟨o, h⟩ := h
 refine WL.make (MV.box (cs := [make2]) rfl (am3 o)) rfl rfl rfl (fun b_3' => ?_)
 refine WL.make (MV.alloc p9) rfl rfl rfl (fun b_4' => ?_)
 refine WL.nil ?_
 refine kg (hK [(3, zP b_1'), (4, zP b_2'), (5, zP b_3'), (6, zP b_4')] _ ?_)
 refine a6 (fun _ hK_1' => ?_)
 refine a4 ?_
 refine wv (OV.fieldAddr0 rfl acs) ?_
 refine wv (OV.load rfl (At.own 3 rfl) rfl a7) ?_
 obtain ⟨o_1', h⟩ := h
 refine wv (OV.add rfl rfl o_1') ?_
 refine wv (OV.fieldAddr0 rfl acs) ?_
 refine wv (OV.load rfl (At.own 2 rfl) rfl a7) ?_
 obtain ⟨o_2', h⟩ := h
 refine wv (OV.add rfl rfl o_2') ?_
 refine WL.call (A := []) als rfl (ai0 ((1 + a_0) + b_0)) rfl trivial rfl rfl ?_
 refine wv (OV.makeFunc rfl) ?_
 refine wv (OV.build rfl (cs := [zI (min ((1 + a_0) + b_0) 2001), Value.func (.func 117) #[] [zP b_3', zP b_1', zP b_2'].toArray]) rfl) ?_
 refine WL.storeW (vs := [zI (min ((1 + a_0) + b_0) 2001), Value.func (.func 117) #[] [zP b_3', zP b_1', zP b_2'].toArray]) 0 rfl rfl rfl rfl rfl j6 rfl rfl rfl ?_
 refine WL.nil ?_
 refine kg (hK_1' [(6, zP b_4')] _ ?_)
 refine b9 ?_
 refine QX.pick (H' := [HA.blk b_2' (.cells [zI b_0, b_1].toArray 79 (0, 0)), pool B, HA.blk b_4' (.cells [zI (min ((1 + a_0) + b_0) 2001), Value.func (.func 117) #[] [zP b_3', zP b_1', zP b_2'].toArray].toArray 79 (0, 0)), HA.blk b_3' (.cells [make2].toArray 162 (0, 0)), HA.blk b_1' (.cells [zI a_0, a_1].toArray 79 (0, 0))]) [2, 4, 0, 1, 3] rfl rfl ?_
 refine QX.absorb ?_
 refine QX.pick (H' := [HA.blk b_1' (.cells [zI a_0, a_1].toArray 79 (0, 0)), pool ((b_2', .cells [zI b_0, b_1].toArray 79 (0, 0)) :: B), HA.blk b_4' (.cells [zI (min ((1 + a_0) + b_0) 2001), Value.func (.func 117) #[] [zP b_3', zP b_1', zP b_2'].toArray].toArray 79 (0, 0)), HA.blk b_3' (.cells [make2].toArray 162 (0, 0))]) [3, 0, 1, 2] rfl rfl ?_
 refine QX.absorb ?_
 refine QX.pick (H' := [HA.blk b_3' (.cells [make2].toArray 162 (0, 0)), pool ((b_1', .cells [zI a_0, a_1].toArray 79 (0, 0)) :: ((b_2', .cells [zI b_0, b_1].toArray 79 (0, 0)) :: B)), HA.blk b_4' (.cells [zI (min ((1 + a_0) + b_0) 2001), Value.func (.func 117) #[] [zP b_3', zP b_1', zP b_2'].toArray].toArray 79 (0, 0))]) [2, 0, 1] rfl rfl ?_
 refine QX.absorb ?_
 exact hE.ret [0] rfl rfl (.inl ⟨_, _, _, (h b_3' b_1' b_2'), rfl⟩) (d8.of1 rfl (RV.row rfl (At.own 1 rfl) i8))
theorem agd (x : Tr) (B : List (Nat × Obj)) : c8 Tryd.prog 144 [x.val] [] [pool B] (fun o => ∃ n u B', amr B B' x n u ∧ o = .ret (.agg [.int .i64 n, u].toArray) [pool B']) := by
 refine (axt x B (fun n u D => amr B D x n u) ?_).weak ?_
 ·intro b
  refine ⟨fun p hp => List.mem_cons_of_mem _ hp, ⟨by unfold w9; omega, rfl⟩, fun h => ⟨acu.func (by kernel_rfl) (c8.one (awn b x _ (List.mem_cons_self ..) (fun v => v = x) rfl)), by rw [h]; rfl⟩⟩
 ·rintro o (⟨n, u, D, hK, rfl⟩ | h)
  ·exact ⟨n, u, D, hK, rfl⟩
  ·exact h.elim
theorem afx (sa : Int) (a : Value) (B : List (Nat × Obj)) (h : w9 sa) : c8 Tryd.prog 157 [.agg [.int .i64 sa, a].toArray] [] [pool B] (fun o => ∃ n u B', amt B B' sa a n u ∧ o = .ret (.agg [.int .i64 n, u].toArray) [pool B']) := by
 refine (ax4 sa a B (fun n u D => amt B D sa a n u) ?_).weak ?_
 ·unfold w9 at h
  refine ⟨by unfold I64; omega, fun b => ⟨fun p hp => List.mem_cons_of_mem _ hp, ⟨by unfold w9; omega, rfl⟩, fun x hx => ⟨acu.func (by kernel_rfl) (c8.one (axq b sa a _ (List.mem_cons_self ..) (fun v => v = .star x) ⟨x, hx.1.more fun p hp => List.mem_cons_of_mem _ hp, rfl⟩)), ?_⟩⟩⟩
  have := hx.2
  simp only [Tr.size]; omega
 ·rintro o (⟨n, u, D, hK, rfl⟩ | h)
  ·exact ⟨n, u, D, hK, rfl⟩
  ·exact h.elim
theorem abe {f : FuncId} {op : Tr → Tr → Tr} (hop : awp f op) (sa : Int) (a : Value) (sb : Int) (b : Value) (B : List (Nat × Obj)) (h : w9 sa ∧ w9 sb) :
  c8 Tryd.prog 78 [.agg [.int .i64 sa, a].toArray, .agg [.int .i64 sb, b].toArray, .func (.func f) #[] ([] : List Value).toArray] [] [pool B] (fun o => ∃ n u B', aff op B B' sa a sb b n u ∧ o = .ret (.agg [.int .i64 n, u].toArray) [pool B']) := by
 refine (ax9 sa a sb b _ B (fun n u D => aff op B D sa a sb b n u) ?_).weak ?_
 ·unfold w9 at h
  refine ⟨rfl, by unfold I64; omega, by unfold I64; omega, fun b3 b1 b2 => ⟨fun p hp => by simp [hp], ⟨by unfold w9; omega, rfl⟩, fun x y hx hy => ⟨acu.func (by kernel_rfl) (c8.one (awe b3 b1 b2 _ sa a sb b _ (by simp) (by simp) (by simp) (fun v => v = op x y) ⟨x, hx.1.more fun p hp => by simp [hp], y, hy.1.more fun p hp => by simp [hp], op x y, hop.1 x y, rfl⟩)), ?_⟩⟩⟩
  have h1 := hx.2; have h2 := hy.2
  rw [hop.2]; omega
 ·rintro o (⟨n, u, D, hK, rfl⟩ | h)
  ·exact ⟨n, u, D, hK, rfl⟩
  ·exact h.elim
def ap2 (a_0 : Int) (a_1 : Value) (B : List (Nat × Obj)) (K : Int → Value → (List (Nat × Obj)) → Prop) : Prop :=
 (∀ (sz : Int) (u : Value) (B_1' : List (Nat × Obj)), amr B B_1' .eps sz u →
  (w9 a_0 ∧ w9 sz) ∧
  (∀ (sz_1' : Int) (u_1' : Value) (B_2' : List (Nat × Obj)), aff Tr.alt B_1' B_2' a_0 a_1 sz u sz_1' u_1' →
   (u_1'.oneCell' = true) ∧
   K sz_1' u_1' B_2'))
theorem axj  (a_0 : Int) (a_1 : Value) (B : List (Nat × Obj)) (K : Int → Value → (List (Nat × Obj)) → Prop) (h : ap2 a_0 a_1 B K) :
  c8 Tryd.prog 158 [Value.agg [zI a_0, a_1].toArray] [] [pool B] (fun o => (∃ (v_0 : Int) (v_1 : Value) (D : List (Nat × Obj)), K v_0 v_1 D ∧ o = .ret (Value.agg [zI v_0, v_1].toArray) [pool D]) ∨ (False)) := by
 unfold ap2 at h
 refine c6 (n := 8) (L0 := [(0, Value.agg [zI a_0, a_1].toArray)]) Tryd.func158 rfl rfl rfl rfl (fun w0 M Q hE => ?_)
 refine a6 (fun _ hK => ?_)
 refine a4 ?_
 refine WL.make (MV.box (cs := [zI a_0, a_1]) rfl rfl) rfl rfl rfl (fun b => ?_)
 refine WL.make (MV.alloc p9) rfl rfl rfl (fun b_1' => ?_)
 refine WL.nil ?_
 refine kg (hK [(1, zP b), (2, zP b_1')] _ ?_)
 refine a6 (fun _ hK_1' => ?_)
 refine x3 3 [0, 1] [HA.blk b_1' (.cells [zI 0, Value.nilFunc].toArray 79 (0, 0)), HA.blk b (.cells [zI a_0, a_1].toArray 79 (0, 0))] rfl rfl f0 (by kernel_rfl) (fun T hT => ?_)
 refine TW.val (OV.loadR rfl (At.own 1 rfl) i8) rfl rfl rfl ?_
 refine TW.val (OV.build rfl (cs := []) rfl) rfl rfl rfl ?_
 refine TW.val (OV.cast (OV.iface rfl agr) (v' := Tr.val .eps) rfl) rfl rfl rfl ?_
 refine TW.nil (hT _ ?_)
 refine WLX.pick (H' := [pool B, HA.blk b_1' (.cells [zI 0, Value.nilFunc].toArray 79 (0, 0)), HA.blk b (.cells [zI a_0, a_1].toArray 79 (0, 0))]) [2, 0, 1] rfl rfl ?_
 refine WLX.callS [0, 1] rfl (EN.fn aex rfl) rfl (agd .eps B) rfl rfl trivial rfl rfl (fun r H' hS => ?_) (fun c H' hS => ?_)
 ·obtain ⟨sz, u, B_1', hc, ho⟩ := hS
  cases ho
  replace h := h sz u B_1' hc
  obtain ⟨o, h⟩ := h
  refine WLX.callS [0, 1] rfl (EN.fn abf rfl) rfl (abe Tr.alt_op a_0 a_1 sz u B_1' o) rfl rfl trivial rfl rfl (fun r H' hS => ?_) (fun c H' hS => ?_)
  ·obtain ⟨sz_1', u_1', B_2', hc, ho⟩ := hS
   cases ho
   replace h := h sz_1' u_1' B_2' hc
   obtain ⟨o_1', h⟩ := h
   refine WLX.opZ (OpK.storeW (vs := [zI sz_1', u_1']) 1 rfl rfl rfl rfl rfl j6 rfl (c9 rfl (c9 o_1' m6))) rfl ?_
   refine WLX.nil ?_
   refine kg (hK_1' [(2, zP b_1')] _ ?_)
   refine b9 ?_
   exact hE.ret [0] rfl rfl (.inl ⟨_, _, _, h, rfl⟩) (d8.of1 rfl (RV.row rfl (At.own 1 rfl) i8))
  ·obtain ⟨sz_1', u_1', B_2', hc, ho⟩ := hS
   cases ho
 ·obtain ⟨sz, u, B_1', hc, ho⟩ := hS
  cases ho
theorem agt (sa : Int) (a : Value) (B : List (Nat × Obj)) (h : w9 sa) : c8 Tryd.prog 158 [.agg [.int .i64 sa, a].toArray] [] [pool B] (fun o => ∃ n u B', ak0 B B' sa a n u ∧ o = .ret (.agg [.int .i64 n, u].toArray) [pool B']) := by
 refine (axj sa a B (fun n u D => ak0 B D sa a n u) ?_).weak ?_
 ·rintro n u B1 ⟨h1, h2, h3⟩
  refine ⟨⟨h, h2.1⟩, ?_⟩
  rintro m v B2 ⟨g1, g2, g3⟩
  exact ⟨g2.2, h1.trans g1, g2, fun x hx => g3 x .eps (hx.more h1) (h3 rfl)⟩
 ·rintro o (⟨n, u, D, hK, rfl⟩ | h)
  ·exact ⟨n, u, D, hK, rfl⟩
  ·exact h.elim
def ali (a_0 : Int) (a_1 : Value) (m : Int) (n : Int) (B : List (Nat × Obj)) (K : Int → Value → (List (Nat × Obj)) → Prop) : Prop :=
 (if ((decide (m = 0)) && (decide (n < 0))) = true then
  (w9 a_0) ∧
  (∀ (sz : Int) (u : Value) (B_1' : List (Nat × Obj)), amt B B_1' a_0 a_1 sz u →
   (u.oneCell' = true) ∧
   K sz u B_1')
 else
  (if ((decide (m = 0)) && (decide (n = 0))) = true then
   (∀ (sz_1' : Int) (u_1' : Value) (B_2' : List (Nat × Obj)), amr B B_2' .eps sz_1' u_1' →
    (u_1'.oneCell' = true) ∧
    K sz_1' u_1' B_2')
  else
   (a_1.oneCell' = true) ∧
   ∃ (J0 : (List (Nat × Obj)) → Int → Value → Prop),
    (∀ (c : List (Nat × Obj)) (out_0 : Int) (out_1 : Value), J0 c out_0 out_1 →
     ∃ (Inv : Int → (List (Nat × Obj)) → Int → Value → Prop) (mu : Int → (List (Nat × Obj)) → Int → Value → Nat),
      Inv 1 c out_0 out_1 ∧ ∀ (k_1' : Int) (c_2' : List (Nat × Obj)) (out_0_2' : Int) (out_1_2' : Value), Inv k_1' c_2' out_0_2' out_1_2' →
       (if (decide (k_1' < m)) = true then
        (w9 out_0_2' ∧ w9 a_0) ∧
        (∀ (sz_5' : Int) (u_5' : Value) (B_6' : List (Nat × Obj)), aff Tr.cat c_2' B_6' out_0_2' out_1_2' a_0 a_1 sz_5' u_5' →
         (u_5'.oneCell' = true) ∧
         (I64 (k_1' + 1)) ∧
         Inv (k_1' + 1) B_6' sz_5' u_5' ∧ mu (k_1' + 1) B_6' sz_5' u_5' < mu k_1' c_2' out_0_2' out_1_2')
       else
        (if (decide (n < 0)) = true then
         (w9 a_0) ∧
         (∀ (sz_6' : Int) (u_6' : Value) (B_7' : List (Nat × Obj)), amt c_2' B_7' a_0 a_1 sz_6' u_6' →
          (w9 out_0_2' ∧ w9 sz_6') ∧
          (∀ (sz_7' : Int) (u_7' : Value) (B_8' : List (Nat × Obj)), aff Tr.cat B_7' B_8' out_0_2' out_1_2' sz_6' u_6' sz_7' u_7' →
           (u_7'.oneCell' = true) ∧
           K sz_7' u_7' B_8'))
        else
         ∃ (Inv_1' : Int → (List (Nat × Obj)) → Int → Value → Prop) (mu_1' : Int → (List (Nat × Obj)) → Int → Value → Nat),
          Inv_1' k_1' c_2' out_0_2' out_1_2' ∧ ∀ (k_3' : Int) (c_4' : List (Nat × Obj)) (out_0_4' : Int) (out_1_4' : Value), Inv_1' k_3' c_4' out_0_4' out_1_4' →
           (if (decide (k_3' < n)) = true then
            (w9 a_0) ∧
            (∀ (sz_12' : Int) (u_12' : Value) (B_13' : List (Nat × Obj)), ak0 c_4' B_13' a_0 a_1 sz_12' u_12' →
             (w9 out_0_4' ∧ w9 sz_12') ∧
             (∀ (sz_13' : Int) (u_13' : Value) (B_14' : List (Nat × Obj)), aff Tr.cat B_13' B_14' out_0_4' out_1_4' sz_12' u_12' sz_13' u_13' →
              (u_13'.oneCell' = true) ∧
              (I64 (k_3' + 1)) ∧
              Inv_1' (k_3' + 1) B_14' sz_13' u_13' ∧ mu_1' (k_3' + 1) B_14' sz_13' u_13' < mu_1' k_3' c_4' out_0_4' out_1_4'))
           else
            (out_1_4'.oneCell' = true) ∧
            K out_0_4' out_1_4' c_4')))) ∧
    (if (decide (m = 0)) = true then
     (w9 a_0) ∧
     (∀ (sz_14' : Int) (u_14' : Value) (B_15' : List (Nat × Obj)), ak0 B B_15' a_0 a_1 sz_14' u_14' →
      (u_14'.oneCell' = true) ∧
      J0 B_15' sz_14' u_14')
    else
     J0 B a_0 a_1)))
theorem awa  (a_0 : Int) (a_1 : Value) (m : Int) (n : Int) (B : List (Nat × Obj)) (K : Int → Value → (List (Nat × Obj)) → Prop) (h : ali a_0 a_1 m n B K) :
  c8 Tryd.prog 168 [Value.agg [zI a_0, a_1].toArray, zI m, zI n] [] [pool B] (fun o => (∃ (v_0 : Int) (v_1 : Value) (D : List (Nat × Obj)), K v_0 v_1 D ∧ o = .ret (Value.agg [zI v_0, v_1].toArray) [pool D]) ∨ (False)) := by
 unfold ali at h
 refine c6 (n := 55) (L0 := [(0, Value.agg [zI a_0, a_1].toArray), (1, zI m), (2, zI n)]) Tryd.func168 rfl rfl rfl rfl (fun w0 M Q hE => ?_)
 refine a6 (fun _ hK => ?_)
 refine a4 ?_
 refine WL.make (MV.box (cs := [zI a_0, a_1]) rfl rfl) rfl rfl rfl (fun b => ?_)
 refine WL.make (MV.alloc p9) rfl rfl rfl (fun b_1' => ?_)
 refine WL.nil ?_
 refine kg (hK [(1, zI m), (2, zI n), (3, zP b), (6, zP b_1')] _ ?_)
 refine a6 (fun _ hK_1' => ?_)
 refine a6 (fun _ hK_2' => ?_)
 refine a4 ?_
 refine wm ?_
 refine wv (OV.eql rfl rfl) ?_
 refine wm ?_
 refine WL.cut 3 [(1, zI m), (2, zI n), (3, zP b), (6, zP b_1'), (14, zB ((decide (m = 0)) && (decide (n < 0))))] ?_ (fun K0_3' hK_3' => ?_)
 rotate_left
 ·refine WL.split (decide (m = 0)) (fun hb => ?_) (fun hb => ?_)
  ·refine WL.set 11 rfl (congrArg zB hb) ?_
   refine wm ?_
   refine wv (OV.lss rfl rfl) ?_
   refine wv (OV.pickT rfl rfl) ?_
   refine WL.set 14 rfl (bT (v := decide (n < 0)) hb) ?_
   exact WL.end_ (kg hK_3')
  ·refine WL.set 11 rfl (congrArg zB hb) ?_
   refine wk ?_
   refine wk ?_
   refine wv (OV.pickF rfl rfl) ?_
   refine WL.set 14 rfl (bF (v := decide (n < 0)) hb) ?_
   exact WL.end_ (kg hK_3')
 refine WL.nil ?_
 refine kg (hK_2' [(1, zI m), (2, zI n), (3, zP b), (6, zP b_1'), (14, zB ((decide (m = 0)) && (decide (n < 0))))] _ ?_)
 refine b5 (b := (decide (m = 0)) && (decide (n < 0))) rfl (fun hb => ?_) (fun hb => ?_)
 ·replace h := j4 h hb
  refine a6 (fun _ hK_4' => ?_)
  refine a4 ?_
  refine wv (OV.loadR rfl (At.own 1 rfl) i8) ?_
  obtain ⟨o_1', h⟩ := h
  refine WL.pick (H' := [pool B, HA.blk b_1' (.cells [zI 0, Value.nilFunc].toArray 79 (0, 0)), HA.blk b (.cells [zI a_0, a_1].toArray 79 (0, 0))]) [2, 0, 1] rfl rfl ?_
  refine WL.callS ae3 rfl (afx a_0 a_1 B o_1') rfl trivial rfl rfl (fun r H' hS => ?_) (fun c H' hS => ?_)
  ·obtain ⟨sz, u, B_1', hc, ho⟩ := hS
   cases ho
   replace h := h sz u B_1' hc
   obtain ⟨o_2', h⟩ := h
   refine WL.storeW (vs := [zI sz, u]) 1 rfl rfl rfl rfl rfl j6 rfl (c9 rfl (c9 o_2' m6)) rfl ?_
   refine WL.nil ?_
   refine kg (hK_4' [(6, zP b_1')] _ ?_)
   refine b9 ?_
   exact hE.ret [0] rfl rfl (.inl ⟨_, _, _, h, rfl⟩) (d8.of1 rfl (RV.row rfl (At.own 1 rfl) i8))
  ·obtain ⟨sz, u, B_1', hc, ho⟩ := hS
   cases ho
 ·replace h := i9 h hb
  refine b7 ?_
  refine kg (hK_1' [(1, zI m), (2, zI n), (3, zP b), (6, zP b_1')] _ ?_)
  refine a6 (fun _ hK_5' => ?_)
  refine a6 (fun _ hK_6' => ?_)
  refine a4 ?_
  refine wm ?_
  refine wv (OV.eql rfl rfl) ?_
  refine wm ?_
  refine WL.cut 3 [(1, zI m), (2, zI n), (3, zP b), (6, zP b_1'), (22, zB ((decide (m = 0)) && (decide (n = 0))))] ?_ (fun K0_7' hK_7' => ?_)
  rotate_left
  ·refine WL.split (decide (m = 0)) (fun hb => ?_) (fun hb => ?_)
   ·refine WL.set 19 rfl (congrArg zB hb) ?_
    refine wm ?_
    refine wv (OV.eql rfl rfl) ?_
    refine wv (OV.pickT rfl rfl) ?_
    refine WL.set 22 rfl (bT (v := decide (n = 0)) hb) ?_
    exact WL.end_ (kg hK_7')
   ·refine WL.set 19 rfl (congrArg zB hb) ?_
    refine wk ?_
    refine wk ?_
    refine wv (OV.pickF rfl rfl) ?_
    refine WL.set 22 rfl (bF (v := decide (n = 0)) hb) ?_
    exact WL.end_ (kg hK_7')
  refine WL.nil ?_
  refine kg (hK_6' [(1, zI m), (2, zI n), (3, zP b), (6, zP b_1'), (22, zB ((decide (m = 0)) && (decide (n = 0))))] _ ?_)
  refine b5 (b := (decide (m = 0)) && (decide (n = 0))) rfl (fun hb => ?_) (fun hb => ?_)
  ·replace h := j4 h hb
   refine a6 (fun _ hK_8' => ?_)
   refine a4 ?_
   refine wv (OV.build rfl (cs := []) rfl) ?_
   refine wv (OV.cast (OV.iface rfl agr) (v' := Tr.val .eps) rfl) ?_
   refine WL.pick (H' := [pool B, HA.blk b_1' (.cells [zI 0, Value.nilFunc].toArray 79 (0, 0)), HA.blk b (.cells [zI a_0, a_1].toArray 79 (0, 0))]) [2, 0, 1] rfl rfl ?_
   refine WL.callS aex rfl (agd .eps B) rfl trivial rfl rfl (fun r H' hS => ?_) (fun c H' hS => ?_)
   ·obtain ⟨sz_1', u_1', B_2', hc, ho⟩ := hS
    cases ho
    replace h := h sz_1' u_1' B_2' hc
    obtain ⟨o_4', h⟩ := h
    refine WL.storeW (vs := [zI sz_1', u_1']) 1 rfl rfl rfl rfl rfl j6 rfl (c9 rfl (c9 o_4' m6)) rfl ?_
    refine WL.nil ?_
    refine kg (hK_8' [(6, zP b_1')] _ ?_)
    refine b9 ?_
    exact hE.ret [0] rfl rfl (.inl ⟨_, _, _, h, rfl⟩) (d8.of1 rfl (RV.row rfl (At.own 1 rfl) i8))
   ·obtain ⟨sz_1', u_1', B_2', hc, ho⟩ := hS
    cases ho
  ·replace h := i9 h hb
   refine b7 ?_
   refine kg (hK_5' [(1, zI m), (2, zI n), (3, zP b), (6, zP b_1')] _ ?_)
   refine a6 (fun _ hK_9' => ?_)
   refine a4 ?_
   refine wv (OV.loadR rfl (At.own 1 rfl) i8) ?_
   refine WL.make (MV.alloc p9) rfl rfl rfl (fun b_2' => ?_)
   obtain ⟨o_5', h⟩ := h
   refine WL.storeW (vs := [zI a_0, a_1]) 0 rfl rfl rfl rfl rfl j6 rfl (c9 rfl (c9 o_5' m6)) rfl ?_
   refine WL.nil ?_
   refine kg (hK_9' [(1, zI m), (2, zI n), (3, zP b), (6, zP b_1'), (7, zP b_2')] _ ?_)
   refine a6 (fun _ hK_10' => ?_)
   refine a4 ?_
   refine wa ?_
   refine WL.nil ?_
   refine kg (hK_10' [(1, zI m), (2, zI n), (3, zP b), (6, zP b_1'), (7, zP b_2'), (8, zI 1)] _ ?_)
   obtain ⟨J0, hJ, h⟩ := h
   refine m7 (X := (List (Nat × Obj)) × Int × Value) (fun σ => J0 σ.1 σ.2.1 σ.2.2) (fun σ => [(1, zI m), (2, zI n), (3, zP b), (6, zP b_1'), (7, zP b_2'), (8, zI 1)]) (fun σ => [pool σ.1, HA.blk b_2' (.cells [zI σ.2.1, σ.2.2].toArray 79 (0, 0)), HA.blk b_1' (.cells [zI 0, Value.nilFunc].toArray 79 (0, 0)), HA.blk b (.cells [zI a_0, a_1].toArray 79 (0, 0))]) ?_ (fun K0_12' hK_12' => ?_)
   ·rintro ⟨c, out_0, out_1⟩ hj
    replace h := hJ c out_0 out_1 hj
    show WC _ _ _ _ [(1, zI m), (2, zI n), (3, zP b), (6, zP b_1'), (7, zP b_2'), (8, zI 1)] [pool c, HA.blk b_2' (.cells [zI out_0, out_1].toArray 79 (0, 0)), HA.blk b_1' (.cells [zI 0, Value.nilFunc].toArray 79 (0, 0)), HA.blk b (.cells [zI a_0, a_1].toArray 79 (0, 0))]
    refine a6 (fun _ hK_13' => ?_)
    refine g8 ?_
    obtain ⟨Inv, mu, h0, hr⟩ := h
    refine aaj (S := Int × (List (Nat × Obj)) × Int × Value) (fun σ => Inv σ.1 σ.2.1 σ.2.2.1 σ.2.2.2) (fun σ => mu σ.1 σ.2.1 σ.2.2.1 σ.2.2.2) (fun σ => [(1, zI m), (2, zI n), (3, zP b), (6, zP b_1'), (7, zP b_2'), (8, zI σ.1)]) (fun σ => [pool σ.2.1, HA.blk b_2' (.cells [zI σ.2.2.1, σ.2.2.2].toArray 79 (0, 0)), HA.blk b_1' (.cells [zI 0, Value.nilFunc].toArray 79 (0, 0)), HA.blk b (.cells [zI a_0, a_1].toArray 79 (0, 0))]) (1, c, out_0, out_1) h0 ⟨rfl, rfl, rfl, rfl, rfl, rfl, trivial⟩ rfl ?_
    rintro ⟨k_1', c_2', out_0_2', out_1_2'⟩ hi K0_20' hK_20'
    have h := hr k_1' c_2' out_0_2' out_1_2' hi
    show WC _ _ _ _ [(1, zI m), (2, zI n), (3, zP b), (6, zP b_1'), (7, zP b_2'), (8, zI k_1')] [pool c_2', HA.blk b_2' (.cells [zI out_0_2', out_1_2'].toArray 79 (0, 0)), HA.blk b_1' (.cells [zI 0, Value.nilFunc].toArray 79 (0, 0)), HA.blk b (.cells [zI a_0, a_1].toArray 79 (0, 0))]
    refine a6 (fun _ hK_21' => ?_)
    refine a6 (fun _ hK_22' => ?_)
    refine a4 ?_
    refine wm ?_
    refine wm ?_
    refine wv (OV.lss rfl rfl) ?_
    refine WL.nil ?_
    refine kg (hK_22' [(1, zI m), (2, zI n), (3, zP b), (6, zP b_1'), (7, zP b_2'), (8, zI k_1'), (33, zB (decide (k_1' < m)))] _ ?_)
    refine b5 (b := decide (k_1' < m)) rfl (fun hb => ?_) (fun hb => ?_)
    ·replace h := j4 h hb
     refine b7 ?_
     refine kg (hK_21' [(1, zI m), (2, zI n), (3, zP b), (6, zP b_1'), (7, zP b_2'), (8, zI k_1')] _ ?_)
     refine a6 (fun _ hK_23' => ?_)
     refine g8 ?_
     refine a4 ?_
     refine wv (OV.loadR rfl (At.own 1 rfl) i8) ?_
     refine wv (OV.loadR rfl (At.own 3 rfl) i8) ?_
     obtain ⟨o_13', h⟩ := h
     refine WL.callS abf rfl (abe Tr.cat_op out_0_2' out_1_2' a_0 a_1 c_2' o_13') rfl trivial rfl rfl (fun r H' hS => ?_) (fun c H' hS => ?_)
     ·obtain ⟨sz_5', u_5', B_6', hc, ho⟩ := hS
      cases ho
      replace h := h sz_5' u_5' B_6' hc
      obtain ⟨o_14', h⟩ := h
      refine WL.storeW (vs := [zI sz_5', u_5']) 1 rfl rfl rfl rfl rfl j6 rfl (c9 rfl (c9 o_14' m6)) rfl ?_
      refine WL.nil ?_
      refine kg (hK_23' [(1, zI m), (2, zI n), (3, zP b), (6, zP b_1'), (7, zP b_2'), (8, zI k_1')] _ ?_)
      refine a4 ?_
      refine wm ?_
      obtain ⟨o_15', h⟩ := h
      refine wv (OV.add rfl rfl o_15') ?_
      refine wa ?_
      refine WL.nil ?_
      exact kh (hK_20' (k_1' + 1, B_6', sz_5', u_5') h.1 h.2) [0, 1, 2, 3]
     ·obtain ⟨sz_5', u_5', B_6', hc, ho⟩ := hS
      cases ho
    ·replace h := i9 h hb
     refine t8 ?_
     refine kg (hK_13' [(2, zI n), (3, zP b), (6, zP b_1'), (7, zP b_2'), (8, zI k_1')] _ ?_)
     refine a6 (fun _ hK_24' => ?_)
     refine a6 (fun _ hK_25' => ?_)
     refine a4 ?_
     refine wm ?_
     refine wv (OV.lss rfl rfl) ?_
     refine WL.nil ?_
     refine kg (hK_25' [(2, zI n), (3, zP b), (6, zP b_1'), (7, zP b_2'), (8, zI k_1'), (40, zB (decide (n < 0)))] _ ?_)
     refine b5 (b := decide (n < 0)) rfl (fun hb => ?_) (fun hb => ?_)
     ·replace h := j4 h hb
      refine a6 (fun _ hK_26' => ?_)
      refine x3 2 [1, 2, 3] [HA.blk b_2' (.cells [zI out_0_2', out_1_2'].toArray 79 (0, 0)), HA.blk b_1' (.cells [zI 0, Value.nilFunc].toArray 79 (0, 0)), HA.blk b (.cells [zI a_0, a_1].toArray 79 (0, 0))] rfl rfl f0 (by kernel_rfl) (fun T hT => ?_)
      refine TW.val (OV.loadR rfl (At.own 0 rfl) i8) rfl rfl rfl ?_
      refine TW.val (OV.loadR rfl (At.own 2 rfl) i8) rfl rfl rfl ?_
      refine TW.nil (hT _ ?_)
      obtain ⟨o_16', h⟩ := h
      refine WLX.callS [0, 1, 2] rfl (EN.fn ae3 rfl) rfl (afx a_0 a_1 c_2' o_16') rfl rfl trivial rfl rfl (fun r H' hS => ?_) (fun c H' hS => ?_)
      ·obtain ⟨sz_6', u_6', B_7', hc, ho⟩ := hS
       cases ho
       replace h := h sz_6' u_6' B_7' hc
       obtain ⟨o_17', h⟩ := h
       refine WLX.callS [0, 1, 2] rfl (EN.fn abf rfl) rfl (abe Tr.cat_op out_0_2' out_1_2' sz_6' u_6' B_7' o_17') rfl rfl trivial rfl rfl (fun r H' hS => ?_) (fun c H' hS => ?_)
       ·obtain ⟨sz_7', u_7', B_8', hc, ho⟩ := hS
        cases ho
        replace h := h sz_7' u_7' B_8' hc
        obtain ⟨o_18', h⟩ := h
        refine WLX.opZ (OpK.storeW (vs := [zI sz_7', u_7']) 2 rfl rfl rfl rfl rfl j6 rfl (c9 rfl (c9 o_18' m6))) rfl ?_
        refine WLX.nil ?_
        refine kg (hK_26' [(6, zP b_1')] _ ?_)
        refine b9 ?_
        exact hE.ret [0] rfl rfl (.inl ⟨_, _, _, h, rfl⟩) (d8.of1 rfl (RV.row rfl (At.own 2 rfl) i8))
       ·obtain ⟨sz_7', u_7', B_8', hc, ho⟩ := hS
        cases ho
      ·obtain ⟨sz_6', u_6', B_7', hc, ho⟩ := hS
       cases ho
     ·replace h := i9 h hb
      refine b7 ?_
      refine kg (hK_24' [(2, zI n), (3, zP b), (6, zP b_1'), (7, zP b_2'), (8, zI k_1')] _ ?_)
      refine a6 (fun _ hK_27' => ?_)
      refine g8 ?_
      obtain ⟨Inv_1', mu_1', h0_1', hr_1'⟩ := h
      refine aaj (S := Int × (List (Nat × Obj)) × Int × Value) (fun σ => Inv_1' σ.1 σ.2.1 σ.2.2.1 σ.2.2.2) (fun σ => mu_1' σ.1 σ.2.1 σ.2.2.1 σ.2.2.2) (fun σ => [(2, zI n), (3, zP b), (6, zP b_1'), (7, zP b_2'), (8, zI σ.1)]) (fun σ => [pool σ.2.1, HA.blk b_2' (.cells [zI σ.2.2.1, σ.2.2.2].toArray 79 (0, 0)), HA.blk b_1' (.cells [zI 0, Value.nilFunc].toArray 79 (0, 0)), HA.blk b (.cells [zI a_0, a_1].toArray 79 (0, 0))]) (k_1', c_2', out_0_2', out_1_2') h0_1' ⟨rfl, rfl, rfl, rfl, rfl, trivial⟩ rfl ?_
      rintro ⟨k_3', c_4', out_0_4', out_1_4'⟩ hi K0_34' hK_34'
      have h := hr_1' k_3' c_4' out_0_4' out_1_4' hi
      show WC _ _ _ _ [(2, zI n), (3, zP b), (6, zP b_1'), (7, zP b_2'), (8, zI k_3')] [pool c_4', HA.blk b_2' (.cells [zI out_0_4', out_1_4'].toArray 79 (0, 0)), HA.blk b_1' (.cells [zI 0, Value.nilFunc].toArray 79 (0, 0)), HA.blk b (.cells [zI a_0, a_1].toArray 79 (0, 0))]
      refine a6 (fun _ hK_35' => ?_)
      refine a6 (fun _ hK_36' => ?_)
      refine a4 ?_
      refine wm ?_
      refine wm ?_
      refine wv (OV.lss rfl rfl) ?_
      refine WL.nil ?_
      refine kg (hK_36' [(2, zI n), (3, zP b), (6, zP b_1'), (7, zP b_2'), (8, zI k_3'), (47, zB (decide (k_3' < n)))] _ ?_)
      refine b5 (b := decide (k_3' < n)) rfl (fun hb => ?_) (fun hb => ?_)
      ·replace h := j4 h hb
       refine b7 ?_
       refine kg (hK_35' [(2, zI n), (3, zP b), (6, zP b_1'), (7, zP b_2'), (8, zI k_3')] _ ?_)
       refine a6 (fun _ hK_37' => ?_)
       refine g8 ?_
       refine x3 2 [1, 2, 3] [HA.blk b_2' (.cells [zI out_0_4', out_1_4'].toArray 79 (0, 0)), HA.blk b_1' (.cells [zI 0, Value.nilFunc].toArray 79 (0, 0)), HA.blk b (.cells [zI a_0, a_1].toArray 79 (0, 0))] rfl rfl f0 (by kernel_rfl) (fun T_3' hT_3' => ?_)
       refine TW.val (OV.loadR rfl (At.own 0 rfl) i8) rfl rfl rfl ?_
       refine TW.val (OV.loadR rfl (At.own 2 rfl) i8) rfl rfl rfl ?_
       refine TW.nil (hT_3' _ ?_)
       obtain ⟨o_27', h⟩ := h
       refine WLX.callS [0, 1, 2] rfl (EN.fn agv rfl) rfl (agt a_0 a_1 c_4' o_27') rfl rfl trivial rfl rfl (fun r H' hS => ?_) (fun c H' hS => ?_)
       ·obtain ⟨sz_12', u_12', B_13', hc, ho⟩ := hS
        cases ho
        replace h := h sz_12' u_12' B_13' hc
        obtain ⟨o_28', h⟩ := h
        refine WLX.callS [0, 1, 2] rfl (EN.fn abf rfl) rfl (abe Tr.cat_op out_0_4' out_1_4' sz_12' u_12' B_13' o_28') rfl rfl trivial rfl rfl (fun r H' hS => ?_) (fun c H' hS => ?_)
        ·obtain ⟨sz_13', u_13', B_14', hc, ho⟩ := hS
         cases ho
         replace h := h sz_13' u_13' B_14' hc
         obtain ⟨o_29', h⟩ := h
         refine WLX.opZ (OpK.storeW (vs := [zI sz_13', u_13']) 1 rfl rfl rfl rfl rfl j6 rfl (c9 rfl (c9 o_29' m6))) rfl ?_
         refine WLX.nil ?_
         refine kg (hK_37' [(2, zI n), (3, zP b), (6, zP b_1'), (7, zP b_2'), (8, zI k_3')] _ ?_)
         refine a4 ?_
         refine wm ?_
         obtain ⟨o_30', h⟩ := h
         refine wv (OV.add rfl rfl o_30') ?_
         refine wa ?_
         refine WL.nil ?_
         exact kh (hK_34' (k_3' + 1, B_14', sz_13', u_13') h.1 h.2) [0, 1, 2, 3]
        ·obtain ⟨sz_13', u_13', B_14', hc, ho⟩ := hS
         cases ho
       ·obtain ⟨sz_12', u_12', B_13', hc, ho⟩ := hS
        cases ho
      ·replace h := i9 h hb
       refine t8 ?_
       refine kg (hK_27' [(6, zP b_1'), (7, zP b_2')] _ ?_)
       refine a6 (fun _ hK_38' => ?_)
       refine a4 ?_
       refine wv (OV.loadR rfl (At.own 1 rfl) i8) ?_
       obtain ⟨o_31', h⟩ := h
       refine WL.storeW (vs := [zI out_0_4', out_1_4']) 2 rfl rfl rfl rfl rfl j6 rfl (c9 rfl (c9 o_31' m6)) rfl ?_
       refine WL.nil ?_
       refine kg (hK_38' [(6, zP b_1')] _ ?_)
       refine b9 ?_
       exact hE.ret [0] rfl rfl (.inl ⟨_, _, _, h, rfl⟩) (d8.of1 rfl (RV.row rfl (At.own 2 rfl) i8))
   ·skip
    refine a6 (fun _ hK_39' => ?_)
    refine a4 ?_
    refine wm ?_
    refine wv (OV.eql rfl rfl) ?_
    refine WL.nil ?_
    refine kg (hK_39' [(1, zI m), (2, zI n), (3, zP b), (6, zP b_1'), (7, zP b_2'), (8, zI 1), (28, zB (decide (m = 0)))] _ ?_)
    refine b5 (b := decide (m = 0)) rfl (fun hb => ?_) (fun hb => ?_)
    ·replace h := j4 h hb
     refine a4 ?_
     refine wv (OV.loadR rfl (At.own 2 rfl) i8) ?_
     obtain ⟨o_32', h⟩ := h
     refine WL.pick (H' := [pool B, HA.blk b_2' (.cells [zI a_0, a_1].toArray 79 (0, 0)), HA.blk b_1' (.cells [zI 0, Value.nilFunc].toArray 79 (0, 0)), HA.blk b (.cells [zI a_0, a_1].toArray 79 (0, 0))]) [3, 0, 1, 2] rfl rfl ?_
     refine WL.callS agv rfl (agt a_0 a_1 B o_32') rfl trivial rfl rfl (fun r H' hS => ?_) (fun c H' hS => ?_)
     ·obtain ⟨sz_14', u_14', B_15', hc, ho⟩ := hS
      cases ho
      replace h := h sz_14' u_14' B_15' hc
      obtain ⟨o_33', h⟩ := h
      refine WL.storeW (vs := [zI sz_14', u_14']) 1 rfl rfl rfl rfl rfl j6 rfl (c9 rfl (c9 o_33' m6)) rfl ?_
      refine WL.nil ?_
      exact kh (hK_12' (B_15', sz_14', u_14') h) [0, 1, 2, 3]
     ·obtain ⟨sz_14', u_14', B_15', hc, ho⟩ := hS
      cases ho
    ·replace h := i9 h hb
     refine b7 ?_
     exact kh (hK_12' (B, a_0, a_1) h) [3, 0, 1, 2]
theorem as3 (sa : Int) (a : Value) (m n : Int) (B : List (Nat × Obj)) (h : abb sa a ∧ 0 ≤ m ∧ m ≤ 255 ∧ n ≤ 255 ∧ -1 ≤ n) :
  c8 Tryd.prog 168 [.agg [.int .i64 sa, a].toArray, .int .i64 m, .int .i64 n] [] [pool B] (fun o => ∃ k u B', atb B B' sa a m n k u ∧ o = .ret (.agg [.int .i64 k, u].toArray) [pool B']) := by
 obtain ⟨hs, h0, h1, h2, h3⟩ := h
 refine (awa sa a m n B (fun k u D => atb B D sa a m n k u) ?_).weak ?_
 ·unfold ali
  by_cases c1 : m = 0 ∧ n < 0
  ·rw [if_pos (by simpa using c1)]
   refine ⟨hs.1, ?_⟩
   rintro k u B1 ⟨g1, g2, g3⟩
   refine ⟨g2.2, g1, g2, fun x hx => ?_⟩
   rw [aae, if_pos c1]; exact g3 x hx
  rw [if_neg (by simpa using c1)]
  by_cases c2 : m = 0 ∧ n = 0
  ·rw [if_pos (by simpa using c2)]
   rintro k u B1 ⟨g1, g2, g3⟩
   refine ⟨g2.2, g1, g2, fun x hx => ?_⟩
   rw [aae, if_neg c1, if_pos c2]; exact g3 rfl
  rw [if_neg (by simpa using c2)]
  have hT : ∀ x, aae x m n = if n < 0 then .cat (acw (if m = 0 then .alt x .eps else x) x (max m 1 - 1).toNat) (.star x) else acw (acw (if m = 0 then .alt x .eps else x) x (max m 1 - 1).toNat) (.alt x .eps) (n - max m 1).toNat := fun x => by
   rw [aae, if_neg c1, if_neg c2, show (max m 1 - 1).toNat = (m - 1).toNat by omega]
  refine ⟨hs.2, fun c o u => acd B c ∧ abb o u ∧ ∀ x, Is B sa a x → Is c o u (if m = 0 then .alt x .eps else x), ?_, ?_⟩
  ·rintro c o u ⟨j1, j2, j3⟩
   refine ⟨fun k c o u => acd B c ∧ abb o u ∧ 1 ≤ k ∧ k ≤ max m 1 ∧ ∀ x, Is B sa a x → Is c o u (acw (if m = 0 then .alt x .eps else x) x (k - 1).toNat), fun k _ _ _ => (256 - k).toNat, ⟨j1, j2, by omega, by omega, fun x hx => by simpa [acw] using j3 x hx⟩, ?_⟩
   rintro k c o u ⟨i1, i2, i3, i4, i5⟩
   by_cases hk : k < m
   ·rw [if_pos (by simpa using hk)]
    refine ⟨⟨i2.1, hs.1⟩, ?_⟩
    rintro z v B1 ⟨g1, g2, g3⟩
    refine ⟨g2.2, by unfold I64; omega, ⟨i1.trans g1, g2, by omega, by omega, fun x hx => ?_⟩, by show (256 - (k + 1)).toNat < (256 - k).toNat; omega⟩
    rw [show (k + 1 - 1).toNat = (k - 1).toNat + 1 by omega, ac7]
    exact g3 _ _ (i5 x hx) (hx.more i1)
   rw [if_neg (by simpa using hk)]
   have hkm : k = max m 1 := by omega
   by_cases hn : n < 0
   ·rw [if_pos (by simpa using hn)]
    refine ⟨hs.1, ?_⟩
    rintro z v B1 ⟨g1, g2, g3⟩
    refine ⟨⟨i2.1, g2.1⟩, ?_⟩
    rintro z2 v2 B2 ⟨q1, q2, q3⟩
    refine ⟨q2.2, (i1.trans g1).trans q1, q2, fun x hx => ?_⟩
    rw [hT, if_pos hn, ← hkm]
    exact q3 _ _ ((i5 x hx).more g1) (g3 x (hx.more i1))
   rw [if_neg (by simpa using hn)]
   refine ⟨fun k' c o u => acd B c ∧ abb o u ∧ k ≤ k' ∧ k' ≤ max n k ∧ ∀ x, Is B sa a x → Is c o u (acw (acw (if m = 0 then .alt x .eps else x) x (k - 1).toNat) (.alt x .eps) (k' - k).toNat), fun k _ _ _ => (300 - k).toNat, ⟨i1, i2, by omega, by omega, fun x hx => by simpa [acw] using i5 x hx⟩, ?_⟩
   rintro k' c o u ⟨e1, e2, e3, e4, e5⟩
   by_cases hk' : k' < n
   ·rw [if_pos (by simpa using hk')]
    refine ⟨hs.1, ?_⟩
    rintro z v B1 ⟨g1, g2, g3⟩
    refine ⟨⟨e2.1, g2.1⟩, ?_⟩
    rintro z2 v2 B2 ⟨q1, q2, q3⟩
    refine ⟨q2.2, by unfold I64; omega, ⟨(e1.trans g1).trans q1, q2, by omega, by omega, fun x hx => ?_⟩, by show (300 - (k' + 1)).toNat < (300 - k').toNat; omega⟩
    rw [show (k' + 1 - k).toNat = (k' - k).toNat + 1 by omega, ac7]
    exact q3 _ _ ((e5 x hx).more g1) (g3 x (hx.more e1))
   ·rw [if_neg (by simpa using hk')]
    refine ⟨e2.2, e1, e2, fun x hx => ?_⟩
    rw [hT, if_neg hn, ← hkm]
    by_cases hkn : k ≤ n
    ·rw [show n = k' by omega]; exact e5 x hx
    ·have := e5 x hx
     rw [show (k' - k).toNat = 0 by omega] at this
     rw [show (n - k).toNat = 0 by omega]; exact this
  ·by_cases hm : m = 0
   ·rw [if_pos (by simpa using hm)]
    refine ⟨hs.1, ?_⟩
    rintro z v B1 ⟨g1, g2, g3⟩
    exact ⟨g2.2, g1, g2, fun x hx => by rw [if_pos hm]; exact g3 x hx⟩
   ·rw [if_neg (by simpa using hm)]
    exact ⟨acd.refl B, hs, fun x hx => by rw [if_neg hm]; exact hx⟩
 ·rintro o (⟨n, u, D, hK, rfl⟩ | h)
  ·exact ⟨n, u, D, hK, rfl⟩
  ·exact h.elim
end Go.Proofs.YtohnchdnkbadaaaDoor
set_option maxRecDepth 100000
namespace Go.Proofs.YtohnchdnkbadaaaDoor
open Go Go.RowKit
theorem d9 : l9 Tryd.prog 76 1 = some 1 := by kernel_rfl
theorem acq : l9 Tryd.prog 76 0 = some 0 := by kernel_rfl
theorem aa2 : o6 Tryd.prog 38 = true := by kernel_rfl
theorem aap : o6 Tryd.prog 77 = true := by kernel_rfl
theorem ace : o6 Tryd.prog 39 = true := by kernel_rfl
theorem aj7 : o6 Tryd.prog 167 = true := by kernel_rfl
theorem atc : o6 Tryd.prog 168 = true := by kernel_rfl
theorem ask : o6 Tryd.prog 159 = true := by kernel_rfl
abbrev scB (b : Nat) (t : List UInt8) (i : Int) (v : Value) : HA := .blk b (.cells [st t, .int .i64 i, v].toArray 76 (0, 0))
def aoi (t : List UInt8) (i : Int) (B B' : List (Nat × Obj)) (sa : Int) (a : Value) (j n : Int) (u : Value) : Prop :=
 acd B B' ∧ abb n u ∧ i < j ∧ j ≤ t.length ∧ ∀ x, Is B sa a x → ∃ y, z7 t x i = .ok (y, j) ∧ Is B' n u y
def an7 (t : List UInt8) (i : Int) (B : List (Nat × Obj)) (sa : Int) (a : Value) (c p : Int) : Prop := ∀ x, Is B sa a x → z7 t x i = .error (c, p)
def ay7 (t : List UInt8) (i : Int) (B B' : List (Nat × Obj)) (sa : Int) (a : Value) (j n : Int) (u : Value) : Prop :=
 acd B B' ∧ abb n u ∧ i ≤ j ∧ j ≤ t.length ∧ ∀ x, Is B sa a x → ∃ y, RP t x i (.ok (y, j)) ∧ Is B' n u y
def ay9 (t : List UInt8) (i : Int) (B : List (Nat × Obj)) (sa : Int) (a : Value) (c p : Int) : Prop := ∀ x, Is B sa a x → RP t x i (.error (c, p))
def aqs (s_0 : List UInt8) (s_1 : Int) (_ : Value) (K : Bool → Prop) : Prop :=
 K (decide ((s_0.length : Int) ≤ s_1))
theorem av2 (b : Nat) (s_0 : List UInt8) (s_1 : Int) (s_2 : Value) (K : Bool → Prop) (h : aqs s_0 s_1 s_2 K) :
  c8 Tryd.prog 38 [zP b] [(b, .cells [st s_0, zI s_1, s_2].toArray 76 (0, 0))] [] (fun o => (∃ (v : Bool), K v ∧ o = .ret (zB v) []) ∨ (False)) := by
 unfold aqs at h
 refine c6 (n := 13) (L0 := [(0, zP b)]) Tryd.func38 rfl rfl rfl rfl (fun w0 M Q hE => ?_)
 refine a6 (fun _ hK => ?_)
 refine a4 ?_
 refine wa ?_
 refine WL.nil ?_
 refine kg (hK [(0, zP b)] _ ?_)
 refine a6 (fun _ hK_1' => ?_)
 refine n9 9 [] f0 (by kernel_rfl) rfl (fun T hT => ?_)
 refine fv (fun _ => OV.move rfl) ?_
 refine fv (fun _ => OV.nilCheck rfl) ?_
 refine fv (fun _ => OV.fieldAddr0 rfl d9) ?_
 refine fv (fun _ => OV.load rfl (At.ro 0 rfl) rfl a7) ?_
 refine fv (fun _ => OV.move rfl) ?_
 refine fv (fun _ => OV.nilCheck rfl) ?_
 refine fv (fun _ => OV.fieldAddr0 rfl acq) ?_
 refine fv (fun _ => OV.load rfl (At.ro 0 rfl) rfl aa3) ?_
 refine fv (fun _ => OV.len rfl k9) ?_
 refine FL.weak (L' := fun γ => [(6, zI s_1), (11, zI (s_0.length : Int))]) (fun γ => ⟨rfl, rfl, trivial⟩) (FL.nil (hT (fun γ => [(6, zI s_1), (11, zI (s_0.length : Int))]) (fun γ => ?_)))
 refine wv (OV.geq rfl rfl) ?_
 refine wa ?_
 refine WL.nil ?_
 refine kg (hK_1' [(2, zB (decide ((s_0.length : Int) ≤ s_1)))] _ ?_)
 refine b9 ?_
 exact hE.ret [] rfl rfl (.inl ⟨_, h, rfl⟩) (d8.of1 rfl (RV.tmp rfl))
def aog (s_0 : List UInt8) (s_1 : Int) (_ : Value) (K : Int → Prop) : Prop :=
 (if (decide (s_1 < (s_0.length : Int))) = true then
  (0 ≤ s_1 ∧ s_1 < s_0.length) ∧
  K ((s_0.getD s_1.toNat 0).toNat : Int)
 else
  K 0)
theorem axx (b : Nat) (s_0 : List UInt8) (s_1 : Int) (s_2 : Value) (K : Int → Prop) (h : aog s_0 s_1 s_2 K) :
  c8 Tryd.prog 77 [zP b] [(b, .cells [st s_0, zI s_1, s_2].toArray 76 (0, 0))] [] (fun o => (∃ (v : Int), K v ∧ o = .ret (zU v) []) ∨ (False)) := by
 unfold aog at h
 refine c6 (n := 22) (L0 := [(0, zP b)]) Tryd.func77 rfl rfl rfl rfl (fun w0 M Q hE => ?_)
 refine a6 (fun _ hK => ?_)
 refine a4 ?_
 refine wa ?_
 refine WL.nil ?_
 refine kg (hK [(0, zP b)] _ ?_)
 refine a6 (fun _ hK_1' => ?_)
 refine a6 (fun _ hK_2' => ?_)
 refine n9 9 [] f0 (by kernel_rfl) rfl (fun T hT => ?_)
 refine fv (fun _ => OV.move rfl) ?_
 refine fv (fun _ => OV.nilCheck rfl) ?_
 refine fv (fun _ => OV.fieldAddr0 rfl d9) ?_
 refine fv (fun _ => OV.load rfl (At.ro 0 rfl) rfl a7) ?_
 refine fv (fun _ => OV.move rfl) ?_
 refine fv (fun _ => OV.nilCheck rfl) ?_
 refine fv (fun _ => OV.fieldAddr0 rfl acq) ?_
 refine fv (fun _ => OV.load rfl (At.ro 0 rfl) rfl aa3) ?_
 refine fv (fun _ => OV.len rfl k9) ?_
 refine FL.weak (L' := fun γ => [(0, zP b), (6, zI s_1), (11, zI (s_0.length : Int))]) (fun γ => ⟨rfl, rfl, rfl, trivial⟩) (FL.nil (hT (fun γ => [(0, zP b), (6, zI s_1), (11, zI (s_0.length : Int))]) (fun γ => ?_)))
 refine wv (OV.lss rfl rfl) ?_
 refine WL.nil ?_
 refine kg (hK_2' [(0, zP b), (12, zB (decide (s_1 < (s_0.length : Int))))] _ ?_)
 refine b5 (b := decide (s_1 < (s_0.length : Int))) rfl (fun hb => ?_) (fun hb => ?_)
 ·replace h := j4 h hb
  refine a6 (fun _ hK_3' => ?_)
  refine n9 8 [] f0 (by kernel_rfl) rfl (fun T_1' hT_1' => ?_)
  refine fv (fun _ => OV.move rfl) ?_
  refine fv (fun _ => OV.nilCheck rfl) ?_
  refine fv (fun _ => OV.fieldAddr0 rfl acq) ?_
  refine fv (fun _ => OV.load rfl (At.ro 0 rfl) rfl aa3) ?_
  refine fv (fun _ => OV.move rfl) ?_
  refine fv (fun _ => OV.nilCheck rfl) ?_
  refine fv (fun _ => OV.fieldAddr0 rfl d9) ?_
  refine fv (fun _ => OV.load rfl (At.ro 0 rfl) rfl a7) ?_
  refine FL.weak (L' := fun γ => [(16, st s_0), (20, zI s_1)]) (fun γ => ⟨rfl, rfl, trivial⟩) (FL.nil (hT_1' (fun γ => [(16, st s_0), (20, zI s_1)]) (fun γ => ?_)))
  obtain ⟨o, h⟩ := h
  refine wv (OV.index rfl rfl k9 o) ?_
  refine wa ?_
  refine WL.nil ?_
  refine kg (hK_3' [(2, zU ((s_0.getD s_1.toNat 0).toNat : Int))] _ ?_)
  refine b9 ?_
  exact hE.ret [] rfl rfl (.inl ⟨_, h, rfl⟩) (d8.of1 rfl (RV.tmp rfl))
 ·replace h := i9 h hb
  refine b7 ?_
  refine KX.go (hK_1' [] _ ?_) trivial
  refine a6 (fun _ hK_4' => ?_)
  refine a4 ?_
  refine wa ?_
  refine WL.nil ?_
  refine kg (hK_4' [(2, zU 0)] _ ?_)
  refine b9 ?_
  exact hE.ret [] rfl rfl (.inl ⟨_, h, rfl⟩) (d8.of1 rfl (RV.tmp rfl))
def aqn (_ : Value) (code : Int) (at0 : Int) (_ : Prop) (KP : Value → Prop) : Prop :=
 KP (Value.iface 26 (Value.agg [zI code, zI at0, st []].toArray))
theorem av4  (s : Value) (code : Int) (at0 : Int) (K : Prop) (KP : Value → Prop) (h : aqn s code at0 K KP) :
  c8 Tryd.prog 39 [s, zI code, zI at0] [] [] (fun o => (K ∧ o = .ret (Value.tuple #[]) []) ∨ (∃ (pv : Value), KP pv ∧ o = .pan [{ v := pv, recovered := false }] [])) := by
 unfold aqn at h
 refine c6 (n := 10) (L0 := [(0, s), (1, zI code), (2, zI at0)]) Tryd.func39 rfl rfl rfl rfl (fun w0 M Q hE => ?_)
 refine a4 ?_
 refine wm ?_
 refine wm ?_
 refine wv (OV.build rfl (cs := [zI code, zI at0, st []]) rfl) ?_
 refine wv (OV.iface rfl ag9) ?_
 refine WL.panic rfl rfl ?_
 exact hE.pan [] rfl rfl (.inr ⟨_, h, rfl⟩)
theorem aal (b : Nat) (t : List UInt8) (i : Int) (w : Value) : c8 Tryd.prog 38 [.pointer (some ⟨b, 0, none⟩)] [(b, .cells [st t, .int .i64 i, w].toArray 76 (0, 0))] [] (Ret (.bool (decide ((t.length : Int) ≤ i))) []) :=
 c8.one (av2 b t i w (fun v => v = decide ((t.length : Int) ≤ i)) rfl)
theorem aaq (b : Nat) (t : List UInt8) (i : Int) (w : Value) (h : 0 ≤ i) : c8 Tryd.prog 77 [.pointer (some ⟨b, 0, none⟩)] [(b, .cells [st t, .int .i64 i, w].toArray 76 (0, 0))] [] (Ret (.int .u8 (nx t i)) []) :=
 c8.one (axx b t i w (fun v => v = nx t i) (by
  unfold aog
  by_cases h1 : i < t.length
  ·rw [if_pos (by simpa using h1)]; exact ⟨⟨h, h1⟩, rfl⟩
  ·rw [if_neg (by simpa using h1)]; exact (ay3 (by omega)).symm))
theorem abx (s : Value) (c p : Int) : c8 Tryd.prog 39 [s, .int .i64 c, .int .i64 p] [] [] (fun o => o = .pan [{ v := n8 c p, recovered := false }] []) := by
 refine (av4 s c p False (fun v => v = n8 c p) rfl).weak ?_
 rintro o (⟨h, _⟩ | ⟨v, rfl, rfl⟩)
 ·exact h.elim
 ·rfl
def amk (s_0 : List UInt8) (s_1 : Int) (s_2 : Value) (K : Int → (List UInt8) → Int → Value → Prop) (KP : Value → (List UInt8) → Int → Value → Prop) : Prop :=
 ∃ (Inv : Int → Int → Prop) (mu : Int → Int → Nat),
  Inv 0 s_1 ∧ ∀ (n_1' : Int) (s_1_2' : Int), Inv n_1' s_1_2' →
   ((!(decide ((s_0.length : Int) ≤ s_1_2'))) = true → (I64 (s_1 + 3))) ∧
   (((!(decide ((s_0.length : Int) ≤ s_1_2'))) && (decide (s_1_2' < s_1 + 3))) = true → (0 ≤ s_1_2')) ∧
   ((((!(decide ((s_0.length : Int) ≤ s_1_2'))) && (decide (s_1_2' < s_1 + 3))) && (decide (48 ≤ nx s_0 s_1_2'))) = true → (0 ≤ s_1_2')) ∧
   (if ((((!(decide ((s_0.length : Int) ≤ s_1_2'))) && (decide (s_1_2' < s_1 + 3))) && (decide (48 ≤ nx s_0 s_1_2'))) && (decide (nx s_0 s_1_2' ≤ 57))) = true then
    (I64 (10 * n_1')) ∧
    (0 ≤ s_1_2') ∧
    (I64 (IntKind.wrap .u8 ((nx s_0 s_1_2') - 48))) ∧
    (I64 ((10 * n_1') + (IntKind.wrap .u8 ((nx s_0 s_1_2') - 48)))) ∧
    (I64 (s_1_2' + 1)) ∧
    Inv ((10 * n_1') + (IntKind.wrap .u8 ((nx s_0 s_1_2') - 48))) (s_1_2' + 1) ∧ mu ((10 * n_1') + (IntKind.wrap .u8 ((nx s_0 s_1_2') - 48))) (s_1_2' + 1) < mu n_1' s_1_2'
   else
    (if (decide (s_1_2' = s_1)) = true then
     KP (n8 20 s_1_2') s_0 s_1_2' s_2
    else
     K n_1' s_0 s_1_2' s_2))
theorem auy (b : Nat) (s_0 : List UInt8) (s_1 : Int) (s_2 : Value) (K : Int → (List UInt8) → Int → Value → Prop) (KP : Value → (List UInt8) → Int → Value → Prop) (h : amk s_0 s_1 s_2 K KP) :
  c8 Tryd.prog 167 [zP b] [] [HA.blk b (.cells [st s_0, zI s_1, s_2].toArray 76 (0, 0))] (fun o => (∃ (v : Int) (d_0 : List UInt8) (d_1 : Int) (d_2 : Value), K v d_0 d_1 d_2 ∧ o = .ret (zI v) [HA.blk b (.cells [st d_0, zI d_1, d_2].toArray 76 (0, 0))]) ∨ (∃ (pv : Value) (d_0 : List UInt8) (d_1 : Int) (d_2 : Value), KP pv d_0 d_1 d_2 ∧ o = .pan [{ v := pv, recovered := false }] [HA.blk b (.cells [st d_0, zI d_1, d_2].toArray 76 (0, 0))])) := by
 unfold amk at h
 refine c6 (n := 58) (L0 := [(0, zP b)]) Tryd.func167 rfl rfl rfl rfl (fun w0 M Q hE => ?_)
 refine a6 (fun _ hK => ?_)
 refine a4 ?_
 refine wa ?_
 refine WL.nil ?_
 refine kg (hK [(0, zP b)] _ ?_)
 refine a6 (fun _ hK_1' => ?_)
 refine n9 5 [] f0 (by kernel_rfl) rfl (fun T hT => ?_)
 refine fv (fun _ => OV.move rfl) ?_
 refine fv (fun _ => OV.nilCheck rfl) ?_
 refine fv (fun _ => OV.fieldAddr0 rfl d9) ?_
 refine fv (fun _ => OV.load rfl (At.own 0 rfl) rfl a7) ?_
 refine fv (fun _ => OV.assign rfl) ?_
 refine FL.weak (L' := fun γ => [(0, zP b), (3, zI 0), (8, zI s_1)]) (fun γ => ⟨rfl, rfl, rfl, trivial⟩) (FL.nil (hT (fun γ => [(0, zP b), (3, zI 0), (8, zI s_1)]) (fun γ => ?_)))
 refine wa ?_
 refine WL.nil ?_
 refine kg (hK_1' [(0, zP b), (3, zI 0), (4, zI s_1)] _ ?_)
 refine a6 (fun _ hK_2' => ?_)
 refine g8 ?_
 obtain ⟨Inv, mu, h0, hr⟩ := h
 refine aaj (S := Int × Int) (fun σ => Inv σ.1 σ.2) (fun σ => mu σ.1 σ.2) (fun σ => [(0, zP b), (3, zI σ.1), (4, zI s_1)]) (fun σ => [HA.blk b (.cells [st s_0, zI σ.2, s_2].toArray 76 (0, 0))]) (0, s_1) h0 ⟨rfl, rfl, rfl, trivial⟩ rfl ?_
 rintro ⟨n_1', s_1_2'⟩ hi K0_15' hK_15'
 have h := hr n_1' s_1_2' hi
 show WC _ _ _ _ [(0, zP b), (3, zI n_1'), (4, zI s_1)] [HA.blk b (.cells [st s_0, zI s_1_2', s_2].toArray 76 (0, 0))]
 refine a6 (fun _ hK_16' => ?_)
 refine a6 (fun _ hK_17' => ?_)
 refine a4 ?_
 refine wm ?_
 refine WL.call (A := []) aa2 rfl (aal b s_0 s_1_2' s_2) rfl ⟨.inl ⟨0, rfl⟩, trivial⟩ rfl rfl ?_
 refine wv (OV.not rfl) ?_
 refine wm ?_
 obtain ⟨o_22', h⟩ := h
 refine WL.cut 8 [(0, zP b), (3, zI n_1'), (4, zI s_1), (20, zB ((!(decide ((s_0.length : Int) ≤ s_1_2'))) && (decide (s_1_2' < s_1 + 3))))] ?_ (fun K0_18' hK_18' => ?_)
 rotate_left
 ·refine WL.split (!(decide ((s_0.length : Int) ≤ s_1_2'))) (fun hb => ?_) (fun hb => ?_)
  ·have o_21' := o_22' hb
   refine WL.set 12 rfl (congrArg zB hb) ?_
   refine wm ?_
   refine wv (OV.nilCheck rfl) ?_
   refine wv (OV.fieldAddr0 rfl d9) ?_
   refine wv (OV.load rfl (At.own 0 rfl) rfl a7) ?_
   refine wm ?_
   refine wv (OV.add rfl rfl o_21') ?_
   refine wv (OV.lss rfl rfl) ?_
   refine wv (OV.pickT rfl rfl) ?_
   refine WL.set 20 rfl (bT (v := decide (s_1_2' < s_1 + 3)) hb) ?_
   exact WL.end_ (kg hK_18')
  ·refine WL.set 12 rfl (congrArg zB hb) ?_
   refine wk ?_
   refine wk ?_
   refine wk ?_
   refine wk ?_
   refine wk ?_
   refine wk ?_
   refine wk ?_
   refine wv (OV.pickF rfl rfl) ?_
   refine WL.set 20 rfl (bF (v := decide (s_1_2' < s_1 + 3)) hb) ?_
   exact WL.end_ (kg hK_18')
 refine wm ?_
 obtain ⟨o_24', h⟩ := h
 refine WL.cut 4 [(0, zP b), (3, zI n_1'), (4, zI s_1), (25, zB (((!(decide ((s_0.length : Int) ≤ s_1_2'))) && (decide (s_1_2' < s_1 + 3))) && (decide (48 ≤ nx s_0 s_1_2'))))] ?_ (fun K0_19' hK_19' => ?_)
 rotate_left
 ·refine WL.split ((!(decide ((s_0.length : Int) ≤ s_1_2'))) && (decide (s_1_2' < s_1 + 3))) (fun hb => ?_) (fun hb => ?_)
  ·have o_23' := o_24' hb
   refine WL.set 21 rfl (congrArg zB hb) ?_
   refine wm ?_
   refine WL.call (A := []) aap rfl (aaq b s_0 s_1_2' s_2 o_23') rfl ⟨.inl ⟨0, rfl⟩, trivial⟩ rfl rfl ?_
   refine wv (OV.geq rfl rfl) ?_
   refine wv (OV.pickT rfl rfl) ?_
   refine WL.set 25 rfl (bT (v := decide (48 ≤ nx s_0 s_1_2')) hb) ?_
   exact WL.end_ (kg hK_19')
  ·refine WL.set 21 rfl (congrArg zB hb) ?_
   refine wk ?_
   refine wk ?_
   refine wk ?_
   refine wv (OV.pickF rfl rfl) ?_
   refine WL.set 25 rfl (bF (v := decide (48 ≤ nx s_0 s_1_2')) hb) ?_
   exact WL.end_ (kg hK_19')
 refine wm ?_
 obtain ⟨o_26', h⟩ := h
 refine WL.cut 4 [(0, zP b), (3, zI n_1'), (4, zI s_1), (30, zB ((((!(decide ((s_0.length : Int) ≤ s_1_2'))) && (decide (s_1_2' < s_1 + 3))) && (decide (48 ≤ nx s_0 s_1_2'))) && (decide (nx s_0 s_1_2' ≤ 57))))] ?_ (fun K0_20' hK_20' => ?_)
 rotate_left
 ·refine WL.split (((!(decide ((s_0.length : Int) ≤ s_1_2'))) && (decide (s_1_2' < s_1 + 3))) && (decide (48 ≤ nx s_0 s_1_2'))) (fun hb => ?_) (fun hb => ?_)
  ·have o_25' := o_26' hb
   refine WL.set 26 rfl (congrArg zB hb) ?_
   refine wm ?_
   refine WL.call (A := []) aap rfl (aaq b s_0 s_1_2' s_2 o_25') rfl ⟨.inl ⟨0, rfl⟩, trivial⟩ rfl rfl ?_
   refine wv (OV.leq rfl rfl) ?_
   refine wv (OV.pickT rfl rfl) ?_
   refine WL.set 30 rfl (bT (v := decide (nx s_0 s_1_2' ≤ 57)) hb) ?_
   exact WL.end_ (kg hK_20')
  ·refine WL.set 26 rfl (congrArg zB hb) ?_
   refine wk ?_
   refine wk ?_
   refine wk ?_
   refine wv (OV.pickF rfl rfl) ?_
   refine WL.set 30 rfl (bF (v := decide (nx s_0 s_1_2' ≤ 57)) hb) ?_
   exact WL.end_ (kg hK_20')
 refine WL.nil ?_
 refine kg (hK_17' [(0, zP b), (3, zI n_1'), (4, zI s_1), (30, zB ((((!(decide ((s_0.length : Int) ≤ s_1_2'))) && (decide (s_1_2' < s_1 + 3))) && (decide (48 ≤ nx s_0 s_1_2'))) && (decide (nx s_0 s_1_2' ≤ 57))))] _ ?_)
 refine b5 (b := (((!(decide ((s_0.length : Int) ≤ s_1_2'))) && (decide (s_1_2' < s_1 + 3))) && (decide (48 ≤ nx s_0 s_1_2'))) && (decide (nx s_0 s_1_2' ≤ 57))) rfl (fun hb => ?_) (fun hb => ?_)
 ·replace h := j4 h hb
  refine b7 ?_
  refine kg (hK_16' [(0, zP b), (3, zI n_1'), (4, zI s_1)] _ ?_)
  refine g8 ?_
  refine a6 (fun _ hK_21' => ?_)
  refine a4 ?_
  refine wm ?_
  obtain ⟨o_27', h⟩ := h
  refine wv (OV.mul rfl rfl o_27') ?_
  refine wm ?_
  obtain ⟨o_28', h⟩ := h
  refine WL.call (A := []) aap rfl (aaq b s_0 s_1_2' s_2 o_28') rfl ⟨.inl ⟨0, rfl⟩, trivial⟩ rfl rfl ?_
  refine wv (OV.subW rfl rfl) ?_
  obtain ⟨o_29', h⟩ := h
  refine wv (OV.conv64 rfl aci Tryd.underlying3 o_29') ?_
  obtain ⟨o_30', h⟩ := h
  refine wv (OV.add rfl rfl o_30') ?_
  refine wa ?_
  refine WL.nil ?_
  refine kg (hK_21' [(0, zP b), (3, zI ((10 * n_1') + (IntKind.wrap .u8 ((nx s_0 s_1_2') - 48)))), (4, zI s_1)] _ ?_)
  refine a4 ?_
  refine wm ?_
  refine wv (OV.nilCheck rfl) ?_
  refine wv (OV.fieldAddr0 rfl d9) ?_
  refine wv (OV.load rfl (At.own 0 rfl) rfl a7) ?_
  obtain ⟨o_31', h⟩ := h
  refine wv (OV.add rfl rfl o_31') ?_
  refine wv (OV.nilCheck rfl) ?_
  refine wv (OV.fieldAddr0 rfl d9) ?_
  refine WL.store (vs := [zI (s_1_2' + 1)]) (cs' := [st s_0, zI (s_1_2' + 1), s_2]) 0 rfl rfl rfl rfl g9 (Nat.le_of_ble_eq_true rfl) rfl rfl rfl ?_
  refine WL.nil ?_
  exact kh (hK_15' ((10 * n_1') + (IntKind.wrap .u8 ((nx s_0 s_1_2') - 48)), s_1_2' + 1) h.1 h.2) [0]
 ·replace h := i9 h hb
  refine t8 ?_
  refine kg (hK_2' [(0, zP b), (3, zI n_1'), (4, zI s_1)] _ ?_)
  refine a6 (fun _ hK_22' => ?_)
  refine a6 (fun _ hK_23' => ?_)
  refine a4 ?_
  refine wm ?_
  refine wv (OV.nilCheck rfl) ?_
  refine wv (OV.fieldAddr0 rfl d9) ?_
  refine wv (OV.load rfl (At.own 0 rfl) rfl a7) ?_
  refine wm ?_
  refine wv (OV.eql rfl rfl) ?_
  refine WL.nil ?_
  refine kg (hK_23' [(0, zP b), (3, zI n_1'), (50, zB (decide (s_1_2' = s_1)))] _ ?_)
  refine b5 (b := decide (s_1_2' = s_1)) rfl (fun hb => ?_) (fun hb => ?_)
  ·replace h := j4 h hb
   refine a4 ?_
   refine wm ?_
   refine wm ?_
   refine wv (OV.nilCheck rfl) ?_
   refine wv (OV.fieldAddr0 rfl d9) ?_
   refine wv (OV.load rfl (At.own 0 rfl) rfl a7) ?_
   refine WL.callS ace rfl (abx (zP b) 20 s_1_2') rfl trivial rfl rfl (fun r H' hS => by cases hS) (fun c H' hS => ?_)
   cases hS
   exact hE.pan [0] rfl rfl (.inr ⟨_, _, _, _, h, rfl⟩)
  ·replace h := i9 h hb
   refine b7 ?_
   refine kg (hK_22' [(3, zI n_1')] _ ?_)
   refine a6 (fun _ hK_24' => ?_)
   refine a4 ?_
   refine wm ?_
   refine wa ?_
   refine WL.nil ?_
   refine kg (hK_24' [(2, zI n_1')] _ ?_)
   refine b9 ?_
   exact hE.ret [0] rfl rfl (.inl ⟨_, _, _, _, h, rfl⟩) (d8.of1 rfl (RV.tmp rfl))
theorem ajc (b : Nat) (t : List UInt8) (i : Int) (w : Value) (h : 0 ≤ i ∧ i ≤ (t.length : Int) ∧ t.length ≤ 1048576) : c8 Tryd.prog 167 [.pointer (some ⟨b, 0, none⟩)] [] [scB b t i w]
  (fun o => (∃ n q, ab6 t i = .ok (n, q) ∧ o = .ret (.int .i64 n) [scB b t q w]) ∨ (∃ c p q, ab6 t i = .error (c, p) ∧ o = .pan [{ v := n8 c p, recovered := false }] [scB b t q w])) := by
 obtain ⟨h0, h1, h2⟩ := h
 refine (auy b t i w (fun n t' q w' => t' = t ∧ w' = w ∧ ab6 t i = .ok (n, q)) (fun v t' _ w' => t' = t ∧ w' = w ∧ ∃ c p, v = n8 c p ∧ ab6 t i = .error (c, p)) ?_).weak ?_
 ·refine ⟨fun n j => ∃ k : Nat, j = i + 3 - k ∧ j ≤ t.length ∧ 0 ≤ n ∧ (k = 3 ∧ n ≤ 0 ∨ k = 2 ∧ n ≤ 9 ∨ k = 1 ∧ n ≤ 99 ∨ k = 0 ∧ n ≤ 999) ∧ adu t 3 0 i = adu t k n j, fun _ j => (i + 3 - j).toNat, ⟨3, by omega, by omega, by omega, by omega, rfl⟩, ?_⟩
  rintro n j ⟨k, e1, e2, e3, e4, e5⟩
  have hb := awh t j
  refine ⟨fun _ => by unfold I64; omega, fun _ => by omega, fun _ => by omega, ?_⟩
  by_cases hc : j < t.length ∧ j < i + 3 ∧ 48 ≤ nx t j ∧ nx t j ≤ 57
  ·rw [if_pos (by simp; omega)]
   obtain ⟨c1, c2, c3, c4⟩ := hc
   have hw : IntKind.wrap .u8 (nx t j - 48) = nx t j - 48 := IntWalk.u8_in _ (by omega)
   rw [hw]
   refine ⟨by unfold I64; omega, by omega, by unfold I64; omega, by unfold I64; omega, by unfold I64; omega, ⟨k - 1, by omega, by omega, by omega, by omega, ?_⟩, by show (i + 3 - (j + 1)).toNat < (i + 3 - j).toNat; omega⟩
   rw [e5]
   obtain ⟨k', rfl⟩ : ∃ k', k = k' + 1 := ⟨k - 1, by omega⟩
   rw [adu, if_pos ⟨c1, by simp [aqq]; omega⟩]
   rfl
  ·rw [if_neg (by simp; omega)]
   have hN : adu t 3 0 i = (n, j) := by
    rw [e5]
    cases k with
    | zero => rfl
    | succ k' => rw [adu, if_neg (by simp only [aqq, Bool.and_eq_true, decide_eq_true_eq]; omega)]
   by_cases hz : j = i
   ·rw [if_pos (by simpa using hz)]
    refine ⟨rfl, rfl, 20, j, rfl, ?_⟩
    unfold ab6; rw [hN, if_pos hz, hz]
   ·rw [if_neg (by simpa using hz)]
    refine ⟨rfl, rfl, ?_⟩
    unfold ab6; rw [hN, if_neg hz]
 ·rintro o (⟨n, t', q, w', ⟨rfl, rfl, hm⟩, rfl⟩ | ⟨v, t', q, w', ⟨rfl, rfl, c, p, rfl, hm⟩, rfl⟩)
  ·exact .inl ⟨n, q, hm, rfl⟩
  ·exact .inr ⟨c, p, q, hm, rfl⟩
def ais (s_0 : List UInt8) (s_1 : Int) (s_2 : Value) (a_0 : Int) (a_1 : Value) (B : List (Nat × Obj)) (K : Int → Value → (List UInt8) → Int → Value → (List (Nat × Obj)) → Prop) (KP : Value → (List UInt8) → Int → Value → (List (Nat × Obj)) → Prop) : Prop :=
 (I64 (s_1 + 1)) ∧
 (0 ≤ (s_1 + 1) ∧ (s_1 + 1) ≤ (s_0.length : Int) ∧ s_0.length ≤ 1048576) ∧
 (∀ (n : Int) (q : Int), ab6 s_0 (s_1 + 1) = .ok (n, q) →
  ∃ (J0 : Int → Int → Prop),
   (∀ (n_2' : Int) (s_1_1' : Int), J0 n_2' s_1_1' →
    ((decide ((s_0.length : Int) ≤ s_1_1')) = false → (0 ≤ s_1_1')) ∧
    (if ((decide ((s_0.length : Int) ≤ s_1_1')) || (!decide (nx s_0 s_1_1' = 125))) = true then
     KP (n8 20 s_1_1') s_0 s_1_1' s_2 B
    else
     (I64 (s_1_1' + 1)) ∧
     (if (((decide (255 < n)) || (decide (255 < n_2'))) || ((decide (0 ≤ n_2')) && (decide (n_2' < n)))) = true then
      KP (n8 22 s_1) s_0 (s_1_1' + 1) s_2 B
     else
      (abb a_0 a_1 ∧ 0 ≤ n ∧ n ≤ 255 ∧ n_2' ≤ 255 ∧ -1 ≤ n_2') ∧
      (∀ (sz : Int) (u : Value) (B_1' : List (Nat × Obj)), atb B B_1' a_0 a_1 n n_2' sz u →
       (u.oneCell' = true) ∧
       K sz u s_0 (s_1_1' + 1) s_2 B_1')))) ∧
   ((!(decide ((s_0.length : Int) ≤ q))) = true → (0 ≤ q)) ∧
   (if ((!(decide ((s_0.length : Int) ≤ q))) && (decide (nx s_0 q = 44))) = true then
    (I64 (q + 1)) ∧
    ((decide ((s_0.length : Int) ≤ q + 1)) = false → (0 ≤ (q + 1))) ∧
    (if ((decide ((s_0.length : Int) ≤ q + 1)) || (!decide (nx s_0 (q + 1) = 125))) = true then
     (0 ≤ (q + 1) ∧ (q + 1) ≤ (s_0.length : Int) ∧ s_0.length ≤ 1048576) ∧
     (∀ (n_3' : Int) (q_4' : Int), ab6 s_0 (q + 1) = .ok (n_3', q_4') →
      J0 n_3' q_4') ∧
     (∀ (c_2' : Int) (p_2' : Int) (q_5' : Int), ab6 s_0 (q + 1) = .error (c_2', p_2') →
      KP (n8 c_2' p_2') s_0 q_5' s_2 B)
    else
     J0 (-1) (q + 1))
   else
    J0 n q)) ∧
 (∀ (c : Int) (p : Int) (q_1' : Int), ab6 s_0 (s_1 + 1) = .error (c, p) →
  KP (n8 c p) s_0 q_1' s_2 B)
theorem aur (b : Nat) (s_0 : List UInt8) (s_1 : Int) (s_2 : Value) (a_0 : Int) (a_1 : Value) (B : List (Nat × Obj)) (K : Int → Value → (List UInt8) → Int → Value → (List (Nat × Obj)) → Prop) (KP : Value → (List UInt8) → Int → Value → (List (Nat × Obj)) → Prop) (h : ais s_0 s_1 s_2 a_0 a_1 B K KP) :
  c8 Tryd.prog 159 [zP b, Value.agg [zI a_0, a_1].toArray] [] [HA.blk b (.cells [st s_0, zI s_1, s_2].toArray 76 (0, 0)), pool B] (fun o => (∃ (v_0 : Int) (v_1 : Value) (d_0 : List UInt8) (d_1 : Int) (d_2 : Value) (D : List (Nat × Obj)), K v_0 v_1 d_0 d_1 d_2 D ∧ o = .ret (Value.agg [zI v_0, v_1].toArray) [HA.blk b (.cells [st d_0, zI d_1, d_2].toArray 76 (0, 0)), pool D]) ∨ (∃ (pv : Value) (d_0 : List UInt8) (d_1 : Int) (d_2 : Value) (D : List (Nat × Obj)), KP pv d_0 d_1 d_2 D ∧ o = .pan [{ v := pv, recovered := false }] [HA.blk b (.cells [st d_0, zI d_1, d_2].toArray 76 (0, 0)), pool D])) := by
 unfold ais at h
 refine c6 (n := 88) (L0 := [(0, zP b), (1, Value.agg [zI a_0, a_1].toArray)]) Tryd.func159 rfl rfl rfl rfl (fun w0 M Q hE => ?_)
 refine a6 (fun _ hK => ?_)
 refine a4 ?_
 refine WL.make (MV.box (cs := [zI a_0, a_1]) rfl rfl) rfl rfl rfl (fun b_1' => ?_)
 refine WL.make (MV.alloc p9) rfl rfl rfl (fun b_2' => ?_)
 refine WL.nil ?_
 refine kg (hK [(0, zP b), (3, zP b_1'), (4, zP b_2')] _ ?_)
 refine a6 (fun _ hK_1' => ?_)
 refine a4 ?_
 refine wm ?_
 refine wv (OV.nilCheck rfl) ?_
 refine wv (OV.fieldAddr0 rfl d9) ?_
 refine wv (OV.load rfl (At.own 2 rfl) rfl a7) ?_
 refine wa ?_
 refine WL.nil ?_
 refine kg (hK_1' [(0, zP b), (3, zP b_1'), (4, zP b_2'), (5, zI s_1)] _ ?_)
 refine a6 (fun _ hK_2' => ?_)
 refine a4 ?_
 refine wm ?_
 refine wv (OV.nilCheck rfl) ?_
 refine wv (OV.fieldAddr0 rfl d9) ?_
 refine wv (OV.load rfl (At.own 2 rfl) rfl a7) ?_
 obtain ⟨o, h⟩ := h
 refine wv (OV.add rfl rfl o) ?_
 refine wv (OV.nilCheck rfl) ?_
 refine wv (OV.fieldAddr0 rfl d9) ?_
 refine WL.store (vs := [zI (s_1 + 1)]) (cs' := [st s_0, zI (s_1 + 1), s_2]) 2 rfl rfl rfl rfl g9 (Nat.le_of_ble_eq_true rfl) rfl rfl rfl ?_
 refine WL.nil ?_
 refine kg (hK_2' [(0, zP b), (3, zP b_1'), (4, zP b_2'), (5, zI s_1)] _ ?_)
 refine a6 (fun _ hK_3' => ?_)
 refine a4 ?_
 refine wm ?_
 obtain ⟨o_1', h⟩ := h
 refine WL.pick (H' := [HA.blk b (.cells [st s_0, zI (s_1 + 1), s_2].toArray 76 (0, 0)), HA.blk b_2' (.cells [zI 0, Value.nilFunc].toArray 79 (0, 0)), HA.blk b_1' (.cells [zI a_0, a_1].toArray 79 (0, 0)), pool B]) [2, 0, 1, 3] rfl rfl ?_
 refine WL.callS aj7 rfl (ajc b s_0 (s_1 + 1) s_2 o_1') rfl trivial rfl rfl (fun r H' hS => ?_) (fun c H' hS => ?_)
 ·rcases hS with ⟨n, q, hc, ho⟩ | ⟨c, p, q_1', hc, ho⟩ <;> cases ho
  replace h := h.1 n q hc
  refine wa ?_
  refine WL.nil ?_
  refine kg (hK_3' [(0, zP b), (3, zP b_1'), (4, zP b_2'), (5, zI s_1), (6, zI n)] _ ?_)
  refine a6 (fun _ hK_4' => ?_)
  refine a4 ?_
  refine wm ?_
  refine wa ?_
  refine WL.nil ?_
  refine kg (hK_4' [(0, zP b), (3, zP b_1'), (4, zP b_2'), (5, zI s_1), (6, zI n), (7, zI n)] _ ?_)
  obtain ⟨J0, hJ, h⟩ := h
  refine m7 (X := Int × Int) (fun σ => J0 σ.1 σ.2) (fun σ => [(0, zP b), (3, zP b_1'), (4, zP b_2'), (5, zI s_1), (6, zI n), (7, zI σ.1)]) (fun σ => [HA.blk b (.cells [st s_0, zI σ.2, s_2].toArray 76 (0, 0)), HA.blk b_2' (.cells [zI 0, Value.nilFunc].toArray 79 (0, 0)), HA.blk b_1' (.cells [zI a_0, a_1].toArray 79 (0, 0)), pool B]) ?_ (fun K0_11' hK_11' => ?_)
  ·rintro ⟨n_2', s_1_1'⟩ hj
   replace h := hJ n_2' s_1_1' hj
   show WC _ _ _ _ [(0, zP b), (3, zP b_1'), (4, zP b_2'), (5, zI s_1), (6, zI n), (7, zI n_2')] [HA.blk b (.cells [st s_0, zI s_1_1', s_2].toArray 76 (0, 0)), HA.blk b_2' (.cells [zI 0, Value.nilFunc].toArray 79 (0, 0)), HA.blk b_1' (.cells [zI a_0, a_1].toArray 79 (0, 0)), pool B]
   refine a6 (fun _ hK_12' => ?_)
   refine a6 (fun _ hK_13' => ?_)
   refine a4 ?_
   refine wm ?_
   refine WL.call (A := []) aa2 rfl (aal b s_0 s_1_1' s_2) rfl ⟨.inl ⟨0, rfl⟩, trivial⟩ rfl rfl ?_
   refine wm ?_
   obtain ⟨o_9', h⟩ := h
   refine WL.cut 4 [(0, zP b), (3, zP b_1'), (4, zP b_2'), (5, zI s_1), (6, zI n), (7, zI n_2'), (52, zB ((decide ((s_0.length : Int) ≤ s_1_1')) || (!decide (nx s_0 s_1_1' = 125))))] ?_ (fun K0_14' hK_14' => ?_)
   rotate_left
   ·refine WL.split (decide ((s_0.length : Int) ≤ s_1_1')) (fun hb => ?_) (fun hb => ?_)
    ·refine WL.set 48 rfl (congrArg zB hb) ?_
     refine wk ?_
     refine wk ?_
     refine wk ?_
     refine wv (OV.pickT rfl rfl) ?_
     refine WL.set 52 rfl (oT (v := !decide (nx s_0 s_1_1' = 125)) hb) ?_
     exact WL.end_ (kg hK_14')
    ·have o_8' := o_9' hb
     refine WL.set 48 rfl (congrArg zB hb) ?_
     refine wm ?_
     refine WL.call (A := []) aap rfl (aaq b s_0 s_1_1' s_2 o_8') rfl ⟨.inl ⟨0, rfl⟩, trivial⟩ rfl rfl ?_
     refine wv (OV.neq rfl rfl) ?_
     refine wv (OV.pickF rfl rfl) ?_
     refine WL.set 52 rfl (oF (v := !decide (nx s_0 s_1_1' = 125)) hb) ?_
     exact WL.end_ (kg hK_14')
   refine WL.nil ?_
   refine kg (hK_13' [(0, zP b), (3, zP b_1'), (4, zP b_2'), (5, zI s_1), (6, zI n), (7, zI n_2'), (52, zB ((decide ((s_0.length : Int) ≤ s_1_1')) || (!decide (nx s_0 s_1_1' = 125))))] _ ?_)
   refine b5 (b := (decide ((s_0.length : Int) ≤ s_1_1')) || (!decide (nx s_0 s_1_1' = 125))) rfl (fun hb => ?_) (fun hb => ?_)
   ·replace h := j4 h hb
    refine a4 ?_
    refine wm ?_
    refine wm ?_
    refine wv (OV.nilCheck rfl) ?_
    refine wv (OV.fieldAddr0 rfl d9) ?_
    refine wv (OV.load rfl (At.own 0 rfl) rfl a7) ?_
    refine WL.callS ace rfl (abx (zP b) 20 s_1_1') rfl trivial rfl rfl (fun r H' hS => by cases hS) (fun c H' hS => ?_)
    cases hS
    exact hE.pan [0, 3] rfl rfl (.inr ⟨_, _, _, _, _, h, rfl⟩)
   ·replace h := i9 h hb
    refine b7 ?_
    refine kg (hK_12' [(0, zP b), (3, zP b_1'), (4, zP b_2'), (5, zI s_1), (6, zI n), (7, zI n_2')] _ ?_)
    refine a6 (fun _ hK_15' => ?_)
    refine a4 ?_
    refine wm ?_
    refine wv (OV.nilCheck rfl) ?_
    refine wv (OV.fieldAddr0 rfl d9) ?_
    refine wv (OV.load rfl (At.own 0 rfl) rfl a7) ?_
    obtain ⟨o_10', h⟩ := h
    refine wv (OV.add rfl rfl o_10') ?_
    refine wv (OV.nilCheck rfl) ?_
    refine wv (OV.fieldAddr0 rfl d9) ?_
    refine WL.store (vs := [zI (s_1_1' + 1)]) (cs' := [st s_0, zI (s_1_1' + 1), s_2]) 0 rfl rfl rfl rfl g9 (Nat.le_of_ble_eq_true rfl) rfl rfl rfl ?_
    refine WL.nil ?_
    refine kg (hK_15' [(0, zP b), (3, zP b_1'), (4, zP b_2'), (5, zI s_1), (6, zI n), (7, zI n_2')] _ ?_)
    refine a6 (fun _ hK_16' => ?_)
    refine a6 (fun _ hK_17' => ?_)
    refine a4 ?_
    refine wm ?_
    refine wv (OV.gtr rfl rfl) ?_
    refine wm ?_
    refine WL.cut 3 [(0, zP b), (3, zP b_1'), (4, zP b_2'), (5, zI s_1), (6, zI n), (7, zI n_2'), (71, zB ((decide (255 < n)) || (decide (255 < n_2'))))] ?_ (fun K0_18' hK_18' => ?_)
    rotate_left
    ·refine WL.split (decide (255 < n)) (fun hb => ?_) (fun hb => ?_)
     ·refine WL.set 68 rfl (congrArg zB hb) ?_
      refine wk ?_
      refine wk ?_
      refine wv (OV.pickT rfl rfl) ?_
      refine WL.set 71 rfl (oT (v := decide (255 < n_2')) hb) ?_
      exact WL.end_ (kg hK_18')
     ·refine WL.set 68 rfl (congrArg zB hb) ?_
      refine wm ?_
      refine wv (OV.gtr rfl rfl) ?_
      refine wv (OV.pickF rfl rfl) ?_
      refine WL.set 71 rfl (oF (v := decide (255 < n_2')) hb) ?_
      exact WL.end_ (kg hK_18')
    refine wm ?_
    refine WL.cut 8 [(0, zP b), (3, zP b_1'), (4, zP b_2'), (5, zI s_1), (6, zI n), (7, zI n_2'), (80, zB (((decide (255 < n)) || (decide (255 < n_2'))) || ((decide (0 ≤ n_2')) && (decide (n_2' < n)))))] ?_ (fun K0_20' hK_20' => ?_)
    rotate_left
    ·refine WL.split ((decide (255 < n)) || (decide (255 < n_2'))) (fun hb => ?_) (fun hb => ?_)
     ·refine WL.set 72 rfl (congrArg zB hb) ?_
      refine wk ?_
      refine wk ?_
      refine wk ?_
      refine wk ?_
      refine wk ?_
      refine wk ?_
      refine wk ?_
      refine wv (OV.pickT rfl rfl) ?_
      refine WL.set 80 rfl (oT (v := (decide (0 ≤ n_2')) && (decide (n_2' < n))) hb) ?_
      exact WL.end_ (kg hK_20')
     ·refine WL.set 72 rfl (congrArg zB hb) ?_
      refine wm ?_
      refine wv (OV.geq rfl rfl) ?_
      refine wm ?_
      refine WL.cut 4 [(0, zP b), (3, zP b_1'), (4, zP b_2'), (5, zI s_1), (6, zI n), (7, zI n_2'), (72, zB false), (79, zB ((decide (0 ≤ n_2')) && (decide (n_2' < n))))] ?_ (fun K0_19' hK_19' => ?_)
      rotate_left
      ·refine WL.split (decide (0 ≤ n_2')) (fun hb => ?_) (fun hb => ?_)
       ·refine WL.set 75 rfl (congrArg zB hb) ?_
        refine wm ?_
        refine wm ?_
        refine wv (OV.lss rfl rfl) ?_
        refine wv (OV.pickT rfl rfl) ?_
        refine WL.set 79 rfl (bT (v := decide (n_2' < n)) hb) ?_
        exact WL.end_ (kg hK_19')
       ·refine WL.set 75 rfl (congrArg zB hb) ?_
        refine wk ?_
        refine wk ?_
        refine wk ?_
        refine wv (OV.pickF rfl rfl) ?_
        refine WL.set 79 rfl (bF (v := decide (n_2' < n)) hb) ?_
        exact WL.end_ (kg hK_19')
      refine wv (OV.pickF rfl rfl) ?_
      refine WL.set 80 rfl (oF (v := (decide (0 ≤ n_2')) && (decide (n_2' < n))) hb) ?_
      exact WL.end_ (kg hK_20')
    refine WL.nil ?_
    refine kg (hK_17' [(0, zP b), (3, zP b_1'), (4, zP b_2'), (5, zI s_1), (6, zI n), (7, zI n_2'), (80, zB (((decide (255 < n)) || (decide (255 < n_2'))) || ((decide (0 ≤ n_2')) && (decide (n_2' < n)))))] _ ?_)
    refine b5 (b := ((decide (255 < n)) || (decide (255 < n_2'))) || ((decide (0 ≤ n_2')) && (decide (n_2' < n)))) rfl (fun hb => ?_) (fun hb => ?_)
    ·replace h := j4 h hb
     refine a4 ?_
     refine wm ?_
     refine wm ?_
     refine WL.callS ace rfl (abx (zP b) 22 s_1) rfl trivial rfl rfl (fun r H' hS => by cases hS) (fun c H' hS => ?_)
     cases hS
     exact hE.pan [0, 3] rfl rfl (.inr ⟨_, _, _, _, _, h, rfl⟩)
    ·replace h := i9 h hb
     refine b7 ?_
     refine kg (hK_16' [(3, zP b_1'), (4, zP b_2'), (6, zI n), (7, zI n_2')] _ ?_)
     refine a6 (fun _ hK_21' => ?_)
     refine a4 ?_
     refine wv (OV.loadR rfl (At.own 2 rfl) i8) ?_
     refine wm ?_
     refine wm ?_
     obtain ⟨o_14', h⟩ := h
     refine WL.pick (H' := [pool B, HA.blk b (.cells [st s_0, zI (s_1_1' + 1), s_2].toArray 76 (0, 0)), HA.blk b_2' (.cells [zI 0, Value.nilFunc].toArray 79 (0, 0)), HA.blk b_1' (.cells [zI a_0, a_1].toArray 79 (0, 0))]) [3, 0, 1, 2] rfl rfl ?_
     refine WL.callS atc rfl (as3 a_0 a_1 n n_2' B o_14') rfl trivial rfl rfl (fun r H' hS => ?_) (fun c H' hS => ?_)
     ·obtain ⟨sz, u, B_1', hc, ho⟩ := hS
      cases ho
      replace h := h sz u B_1' hc
      obtain ⟨o_15', h⟩ := h
      refine WL.storeW (vs := [zI sz, u]) 2 rfl rfl rfl rfl rfl j6 rfl (c9 rfl (c9 o_15' m6)) rfl ?_
      refine WL.nil ?_
      refine kg (hK_21' [(4, zP b_2')] _ ?_)
      refine b9 ?_
      exact hE.ret [1, 0] rfl rfl (.inl ⟨_, _, _, _, _, _, h, rfl⟩) (d8.of1 rfl (RV.row rfl (At.own 2 rfl) i8))
     ·obtain ⟨sz, u, B_1', hc, ho⟩ := hS
      cases ho
  ·skip
   refine a6 (fun _ hK_22' => ?_)
   refine a4 ?_
   refine wm ?_
   refine WL.call (A := []) aa2 rfl (aal b s_0 q s_2) rfl ⟨.inl ⟨0, rfl⟩, trivial⟩ rfl rfl ?_
   refine wv (OV.not rfl) ?_
   refine wm ?_
   obtain ⟨o_17', h⟩ := h
   refine WL.cut 4 [(0, zP b), (3, zP b_1'), (4, zP b_2'), (5, zI s_1), (6, zI n), (7, zI n), (29, zB ((!(decide ((s_0.length : Int) ≤ q))) && (decide (nx s_0 q = 44))))] ?_ (fun K0_23' hK_23' => ?_)
   rotate_left
   ·refine WL.split (!(decide ((s_0.length : Int) ≤ q))) (fun hb => ?_) (fun hb => ?_)
    ·have o_16' := o_17' hb
     refine WL.set 25 rfl (congrArg zB hb) ?_
     refine wm ?_
     refine WL.call (A := []) aap rfl (aaq b s_0 q s_2 o_16') rfl ⟨.inl ⟨0, rfl⟩, trivial⟩ rfl rfl ?_
     refine wv (OV.eql rfl rfl) ?_
     refine wv (OV.pickT rfl rfl) ?_
     refine WL.set 29 rfl (bT (v := decide (nx s_0 q = 44)) hb) ?_
     exact WL.end_ (kg hK_23')
    ·refine WL.set 25 rfl (congrArg zB hb) ?_
     refine wk ?_
     refine wk ?_
     refine wk ?_
     refine wv (OV.pickF rfl rfl) ?_
     refine WL.set 29 rfl (bF (v := decide (nx s_0 q = 44)) hb) ?_
     exact WL.end_ (kg hK_23')
   refine WL.nil ?_
   refine kg (hK_22' [(0, zP b), (3, zP b_1'), (4, zP b_2'), (5, zI s_1), (6, zI n), (7, zI n), (29, zB ((!(decide ((s_0.length : Int) ≤ q))) && (decide (nx s_0 q = 44))))] _ ?_)
   refine b5 (b := (!(decide ((s_0.length : Int) ≤ q))) && (decide (nx s_0 q = 44))) rfl (fun hb => ?_) (fun hb => ?_)
   ·replace h := j4 h hb
    refine a6 (fun _ hK_24' => ?_)
    refine a4 ?_
    refine wm ?_
    refine wv (OV.nilCheck rfl) ?_
    refine wv (OV.fieldAddr0 rfl d9) ?_
    refine wv (OV.load rfl (At.own 0 rfl) rfl a7) ?_
    obtain ⟨o_18', h⟩ := h
    refine wv (OV.add rfl rfl o_18') ?_
    refine wv (OV.nilCheck rfl) ?_
    refine wv (OV.fieldAddr0 rfl d9) ?_
    refine WL.store (vs := [zI (q + 1)]) (cs' := [st s_0, zI (q + 1), s_2]) 0 rfl rfl rfl rfl g9 (Nat.le_of_ble_eq_true rfl) rfl rfl rfl ?_
    refine WL.nil ?_
    refine kg (hK_24' [(0, zP b), (3, zP b_1'), (4, zP b_2'), (5, zI s_1), (6, zI n)] _ ?_)
    refine a6 (fun _ hK_25' => ?_)
    refine a4 ?_
    refine wa ?_
    refine WL.nil ?_
    refine kg (hK_25' [(0, zP b), (3, zP b_1'), (4, zP b_2'), (5, zI s_1), (6, zI n), (7, zI (-1))] _ ?_)
    refine a6 (fun _ hK_26' => ?_)
    refine a4 ?_
    refine wm ?_
    refine WL.call (A := []) aa2 rfl (aal b s_0 (q + 1) s_2) rfl ⟨.inl ⟨0, rfl⟩, trivial⟩ rfl rfl ?_
    refine wm ?_
    obtain ⟨o_20', h⟩ := h
    refine WL.cut 4 [(0, zP b), (3, zP b_1'), (4, zP b_2'), (5, zI s_1), (6, zI n), (7, zI (-1)), (43, zB ((decide ((s_0.length : Int) ≤ q + 1)) || (!decide (nx s_0 (q + 1) = 125))))] ?_ (fun K0_27' hK_27' => ?_)
    rotate_left
    ·refine WL.split (decide ((s_0.length : Int) ≤ q + 1)) (fun hb => ?_) (fun hb => ?_)
     ·refine WL.set 39 rfl (congrArg zB hb) ?_
      refine wk ?_
      refine wk ?_
      refine wk ?_
      refine wv (OV.pickT rfl rfl) ?_
      refine WL.set 43 rfl (oT (v := !decide (nx s_0 (q + 1) = 125)) hb) ?_
      exact WL.end_ (kg hK_27')
     ·have o_19' := o_20' hb
      refine WL.set 39 rfl (congrArg zB hb) ?_
      refine wm ?_
      refine WL.call (A := []) aap rfl (aaq b s_0 (q + 1) s_2 o_19') rfl ⟨.inl ⟨0, rfl⟩, trivial⟩ rfl rfl ?_
      refine wv (OV.neq rfl rfl) ?_
      refine wv (OV.pickF rfl rfl) ?_
      refine WL.set 43 rfl (oF (v := !decide (nx s_0 (q + 1) = 125)) hb) ?_
      exact WL.end_ (kg hK_27')
    refine WL.nil ?_
    refine kg (hK_26' [(0, zP b), (3, zP b_1'), (4, zP b_2'), (5, zI s_1), (6, zI n), (7, zI (-1)), (43, zB ((decide ((s_0.length : Int) ≤ q + 1)) || (!decide (nx s_0 (q + 1) = 125))))] _ ?_)
    refine b5 (b := (decide ((s_0.length : Int) ≤ q + 1)) || (!decide (nx s_0 (q + 1) = 125))) rfl (fun hb => ?_) (fun hb => ?_)
    ·replace h := j4 h hb
     refine a4 ?_
     refine wm ?_
     obtain ⟨o_21', h⟩ := h
     refine WL.callS aj7 rfl (ajc b s_0 (q + 1) s_2 o_21') rfl trivial rfl rfl (fun r H' hS => ?_) (fun c H' hS => ?_)
     ·rcases hS with ⟨n_3', q_4', hc, ho⟩ | ⟨c_2', p_2', q_5', hc, ho⟩ <;> cases ho
      replace h := h.1 n_3' q_4' hc
      refine wa ?_
      refine WL.nil ?_
      exact kh (hK_11' (n_3', q_4') h) [0, 1, 2, 3]
     ·rcases hS with ⟨n_3', q_4', hc, ho⟩ | ⟨c_2', p_2', q_5', hc, ho⟩ <;> cases ho
      replace h := h.2 c_2' p_2' q_5' hc
      exact hE.pan [0, 3] rfl rfl (.inr ⟨_, _, _, _, _, h, rfl⟩)
    ·replace h := i9 h hb
     refine b7 ?_
     exact kh (hK_11' ((-1), q + 1) h) [0, 1, 2, 3]
   ·replace h := i9 h hb
    refine b7 ?_
    exact kh (hK_11' (n, q) h) [0, 1, 2, 3]
 ·rcases hS with ⟨n, q, hc, ho⟩ | ⟨c, p, q_1', hc, ho⟩ <;> cases ho
  replace h := h.2 c p q_1' hc
  exact hE.pan [0, 3] rfl rfl (.inr ⟨_, _, _, _, _, h, rfl⟩)
theorem aqw (b : Nat) (t : List UInt8) (i : Int) (w : Value) (sa : Int) (a : Value) (B : List (Nat × Obj)) (h : 0 ≤ i ∧ i < (t.length : Int) ∧ t.length ≤ 1048576 ∧ abb sa a) : c8 Tryd.prog 159 [.pointer (some ⟨b, 0, none⟩), .agg [.int .i64 sa, a].toArray] [] [scB b t i w, pool B]
  (fun o => (∃ n u j B', aoi t i B B' sa a j n u ∧ o = .ret (.agg [.int .i64 n, u].toArray) [scB b t j w, pool B']) ∨ (∃ c p q B', an7 t i B sa a c p ∧ o = .pan [{ v := n8 c p, recovered := false }] [scB b t q w, pool B'])) := by
 obtain ⟨h0, h1, h2, hr⟩ := h
 refine (aur b t i w sa a B (fun n u t' j w' D => t' = t ∧ w' = w ∧ aoi t i B D sa a j n u) (fun v t' _ w' _ => t' = t ∧ w' = w ∧ ∃ c p, v = n8 c p ∧ an7 t i B sa a c p) ?_).weak ?_
 ·unfold ais
  refine ⟨by unfold I64; omega, ⟨by omega, by omega, h2⟩, ?_, fun c p q hm => ⟨rfl, rfl, c, p, rfl, fun x _ => by unfold z7; rw [hm]⟩⟩
  intro m q hm
  have hm1 := ajq hm (by omega) (by omega)
  have hj : ∀ n j, ac0 t m q = .ok (n, j) → -1 ≤ n ∧ q ≤ j ∧ j ≤ t.length := fun n j hc => by
   unfold ac0 at hc
   split at hc
   ·split at hc
    ·simp only [Except.ok.injEq, Prod.mk.injEq] at hc; omega
    ·have := ajq hc (by omega) (by omega); omega
   ·simp only [Except.ok.injEq, Prod.mk.injEq] at hc; omega
  refine ⟨fun n j => ac0 t m q = .ok (n, j), ?_, fun _ => by omega, ?_⟩
  ·intro n j hc
   have hj' := hj n j hc
   refine ⟨fun _ => by omega, ?_⟩
   by_cases hk : j < t.length ∧ nx t j = 125
   ·rw [if_neg (by simp; omega)]
    refine ⟨by unfold I64; omega, ?_⟩
    by_cases hz : m > 255 ∨ n > 255 ∨ (0 ≤ n ∧ n < m)
    ·rw [if_pos (by simp; omega)]
     exact ⟨rfl, rfl, 22, i, rfl, fun x _ => by simp only [z7, hm, hc, if_pos hk, if_pos hz]⟩
    ·rw [if_neg (by simp; omega)]
     refine ⟨⟨hr, by omega, by omega, by omega, by omega⟩, ?_⟩
     rintro k u B1 ⟨g1, g2, g3⟩
     exact ⟨g2.2, rfl, rfl, g1, g2, by omega, by omega, fun x hx => ⟨aae x m n, by simp only [z7, hm, hc, if_pos hk, if_neg hz], g3 x hx⟩⟩
   ·rw [if_pos (by simp; omega)]
    exact ⟨rfl, rfl, 20, j, rfl, fun x _ => by simp only [z7, hm, hc, if_neg hk]⟩
  ·by_cases hk : q < t.length ∧ nx t q = 44
   ·rw [if_pos (by simp; omega)]
    refine ⟨by unfold I64; omega, fun _ => by omega, ?_⟩
    by_cases hz : q + 1 < t.length ∧ nx t (q + 1) = 125
    ·rw [if_neg (by simp; omega)]
     show ac0 t m q = _
     simp only [ac0, if_pos hk, if_pos hz]
    ·rw [if_pos (by simp; omega)]
     refine ⟨⟨by omega, by omega, h2⟩, fun n j hn => ?_, fun c p q' hn => ?_⟩
     ·show ac0 t m q = _
      simp only [ac0, if_pos hk, if_neg hz, hn]
     ·exact ⟨rfl, rfl, c, p, rfl, fun x _ => by simp only [z7, hm, ac0, if_pos hk, if_neg hz, hn]⟩
   ·rw [if_neg (by simp; omega)]
    show ac0 t m q = _
    simp only [ac0, if_neg hk]
 ·rintro o (⟨n, u, t', j, w', D, ⟨rfl, rfl, hm⟩, rfl⟩ | ⟨v, t', q, w', D, ⟨rfl, rfl, c, p, rfl, hm⟩, rfl⟩)
  ·exact .inl ⟨n, u, j, D, hm, rfl⟩
  ·exact .inr ⟨c, p, q, D, hm, rfl⟩
def alp (s_0 : List UInt8) (s_1 : Int) (s_2 : Value) (a_0 : Int) (a_1 : Value) (B : List (Nat × Obj)) (K : Int → Value → (List UInt8) → Int → Value → (List (Nat × Obj)) → Prop) (KP : Value → (List UInt8) → Int → Value → (List (Nat × Obj)) → Prop) : Prop :=
 ∃ (Inv : Int → Value → Int → (List (Nat × Obj)) → Prop) (mu : Int → Value → Int → (List (Nat × Obj)) → Nat),
  Inv a_0 a_1 s_1 B ∧ ∀ (a_0_4' : Int) (a_1_4' : Value) (s_1_2' : Int) (c_7' : List (Nat × Obj)), Inv a_0_4' a_1_4' s_1_2' c_7' →
   (if (!(decide ((s_0.length : Int) ≤ s_1_2'))) = true then
    ∃ (J0_2' : (List (Nat × Obj)) → Int → Value → Prop),
     (∀ (c_9' : List (Nat × Obj)) (a_0_5' : Int) (a_1_5' : Value), J0_2' c_9' a_0_5' a_1_5' →
      (I64 (s_1_2' + 1)) ∧
      Inv a_0_5' a_1_5' (s_1_2' + 1) c_9' ∧ mu a_0_5' a_1_5' (s_1_2' + 1) c_9' < mu a_0_4' a_1_4' s_1_2' c_7') ∧
     (0 ≤ s_1_2') ∧
     (if (decide (nx s_0 s_1_2' = 42)) = true then
      (w9 a_0_4') ∧
      (∀ (sz_25' : Int) (u_25' : Value) (B_31' : List (Nat × Obj)), amt c_7' B_31' a_0_4' a_1_4' sz_25' u_25' →
       (u_25'.oneCell' = true) ∧
       J0_2' B_31' sz_25' u_25')
     else
      (if (decide (nx s_0 s_1_2' = 43)) = true then
       (w9 a_0_4') ∧
       (∀ (sz_26' : Int) (u_26' : Value) (B_32' : List (Nat × Obj)), amt c_7' B_32' a_0_4' a_1_4' sz_26' u_26' →
        (w9 a_0_4' ∧ w9 sz_26') ∧
        (∀ (sz_27' : Int) (u_27' : Value) (B_33' : List (Nat × Obj)), aff Tr.cat B_32' B_33' a_0_4' a_1_4' sz_26' u_26' sz_27' u_27' →
         (u_27'.oneCell' = true) ∧
         J0_2' B_33' sz_27' u_27'))
      else
       (if (decide (nx s_0 s_1_2' = 63)) = true then
        (w9 a_0_4') ∧
        (∀ (sz_28' : Int) (u_28' : Value) (B_34' : List (Nat × Obj)), ak0 c_7' B_34' a_0_4' a_1_4' sz_28' u_28' →
         (u_28'.oneCell' = true) ∧
         J0_2' B_34' sz_28' u_28')
       else
        (if (decide (nx s_0 s_1_2' = 123)) = true then
         (0 ≤ s_1_2' ∧ s_1_2' < (s_0.length : Int) ∧ s_0.length ≤ 1048576 ∧ abb a_0_4' a_1_4') ∧
         (∀ (sz_29' : Int) (u_29' : Value) (j_5' : Int) (B_35' : List (Nat × Obj)), aoi s_0 s_1_2' c_7' B_35' a_0_4' a_1_4' j_5' sz_29' u_29' →
          (u_29'.oneCell' = true) ∧
          Inv sz_29' u_29' j_5' B_35' ∧ mu sz_29' u_29' j_5' B_35' < mu a_0_4' a_1_4' s_1_2' c_7') ∧
         (∀ (c_10' : Int) (p_5' : Int) (q_5' : Int) (B_36' : List (Nat × Obj)), an7 s_0 s_1_2' c_7' a_0_4' a_1_4' c_10' p_5' →
          KP (n8 c_10' p_5') s_0 q_5' s_2 B_36')
        else
         (a_1_4'.oneCell' = true) ∧
         K a_0_4' a_1_4' s_0 s_1_2' s_2 c_7'))))
   else
    (a_1_4'.oneCell' = true) ∧
    K a_0_4' a_1_4' s_0 s_1_2' s_2 c_7')
theorem aq4 (b : Nat) (s_0 : List UInt8) (s_1 : Int) (s_2 : Value) (a_0 : Int) (a_1 : Value) (B : List (Nat × Obj)) (K : Int → Value → (List UInt8) → Int → Value → (List (Nat × Obj)) → Prop) (KP : Value → (List UInt8) → Int → Value → (List (Nat × Obj)) → Prop) (h : alp s_0 s_1 s_2 a_0 a_1 B K KP) :
  c8 Tryd.prog 145 [zP b, Value.agg [zI a_0, a_1].toArray] [] [HA.blk b (.cells [st s_0, zI s_1, s_2].toArray 76 (0, 0)), pool B] (fun o => (∃ (v_0 : Int) (v_1 : Value) (d_0 : List UInt8) (d_1 : Int) (d_2 : Value) (D : List (Nat × Obj)), K v_0 v_1 d_0 d_1 d_2 D ∧ o = .ret (Value.agg [zI v_0, v_1].toArray) [HA.blk b (.cells [st d_0, zI d_1, d_2].toArray 76 (0, 0)), pool D]) ∨ (∃ (pv : Value) (d_0 : List UInt8) (d_1 : Int) (d_2 : Value) (D : List (Nat × Obj)), KP pv d_0 d_1 d_2 D ∧ o = .pan [{ v := pv, recovered := false }] [HA.blk b (.cells [st d_0, zI d_1, d_2].toArray 76 (0, 0)), pool D])) := by
 unfold alp at h
 refine c6 (n := 38) (L0 := [(0, zP b), (1, Value.agg [zI a_0, a_1].toArray)]) Tryd.func145 rfl rfl rfl rfl (fun w0 M Q hE => ?_)
 refine a6 (fun _ hK => ?_)
 refine a4 ?_
 refine WL.make (MV.box (cs := [zI a_0, a_1]) rfl rfl) rfl rfl rfl (fun b_1' => ?_)
 refine WL.make (MV.alloc p9) rfl rfl rfl (fun b_2' => ?_)
 refine WL.nil ?_
 refine kg (hK [(0, zP b), (3, zP b_1'), (4, zP b_2')] _ ?_)
 refine a6 (fun _ hK_1' => ?_)
 refine g8 ?_
 obtain ⟨Inv, mu, h0, hr⟩ := h
 refine aaj (S := Int × Value × Int × (List (Nat × Obj))) (fun σ => Inv σ.1 σ.2.1 σ.2.2.1 σ.2.2.2) (fun σ => mu σ.1 σ.2.1 σ.2.2.1 σ.2.2.2) (fun σ => [(0, zP b), (3, zP b_1'), (4, zP b_2')]) (fun σ => [HA.blk b_2' (.cells [zI 0, Value.nilFunc].toArray 79 (0, 0)), HA.blk b_1' (.cells [zI σ.1, σ.2.1].toArray 79 (0, 0)), HA.blk b (.cells [st s_0, zI σ.2.2.1, s_2].toArray 76 (0, 0)), pool σ.2.2.2]) (a_0, a_1, s_1, B) h0 ⟨rfl, rfl, rfl, trivial⟩ rfl ?_
 rintro ⟨a_0_4', a_1_4', s_1_2', c_7'⟩ hi K0_36' hK_36'
 have h := hr a_0_4' a_1_4' s_1_2' c_7' hi
 show WC _ _ _ _ [(0, zP b), (3, zP b_1'), (4, zP b_2')] [HA.blk b_2' (.cells [zI 0, Value.nilFunc].toArray 79 (0, 0)), HA.blk b_1' (.cells [zI a_0_4', a_1_4'].toArray 79 (0, 0)), HA.blk b (.cells [st s_0, zI s_1_2', s_2].toArray 76 (0, 0)), pool c_7']
 refine a6 (fun _ hK_37' => ?_)
 refine a6 (fun _ hK_38' => ?_)
 refine a4 ?_
 refine wm ?_
 refine WL.call (A := []) aa2 rfl (aal b s_0 s_1_2' s_2) rfl ⟨.inl ⟨2, rfl⟩, trivial⟩ rfl rfl ?_
 refine wv (OV.not rfl) ?_
 refine WL.nil ?_
 refine kg (hK_38' [(0, zP b), (3, zP b_1'), (4, zP b_2'), (7, zB (!(decide ((s_0.length : Int) ≤ s_1_2'))))] _ ?_)
 refine b5 (b := !(decide ((s_0.length : Int) ≤ s_1_2'))) rfl (fun hb => ?_) (fun hb => ?_)
 ·replace h := j4 h hb
  refine b7 ?_
  refine kg (hK_37' [(0, zP b), (3, zP b_1'), (4, zP b_2')] _ ?_)
  refine g8 ?_
  obtain ⟨J0_2', hJ_2', h⟩ := h
  refine m7 (X := (List (Nat × Obj)) × Int × Value) (fun σ => J0_2' σ.1 σ.2.1 σ.2.2) (fun σ => [(0, zP b), (3, zP b_1'), (4, zP b_2')]) (fun σ => [pool σ.1, HA.blk b_2' (.cells [zI 0, Value.nilFunc].toArray 79 (0, 0)), HA.blk b_1' (.cells [zI σ.2.1, σ.2.2].toArray 79 (0, 0)), HA.blk b (.cells [st s_0, zI s_1_2', s_2].toArray 76 (0, 0))]) ?_ (fun K0_46' hK_46' => ?_)
  ·rintro ⟨c_9', a_0_5', a_1_5'⟩ hj
   replace h := hJ_2' c_9' a_0_5' a_1_5' hj
   show WC _ _ _ _ [(0, zP b), (3, zP b_1'), (4, zP b_2')] [pool c_9', HA.blk b_2' (.cells [zI 0, Value.nilFunc].toArray 79 (0, 0)), HA.blk b_1' (.cells [zI a_0_5', a_1_5'].toArray 79 (0, 0)), HA.blk b (.cells [st s_0, zI s_1_2', s_2].toArray 76 (0, 0))]
   refine a4 ?_
   refine wm ?_
   refine wv (OV.nilCheck rfl) ?_
   refine wv (OV.fieldAddr0 rfl d9) ?_
   refine wv (OV.load rfl (At.own 3 rfl) rfl a7) ?_
   obtain ⟨o_57', h⟩ := h
   refine wv (OV.add rfl rfl o_57') ?_
   refine wv (OV.nilCheck rfl) ?_
   refine wv (OV.fieldAddr0 rfl d9) ?_
   refine WL.store (vs := [zI (s_1_2' + 1)]) (cs' := [st s_0, zI (s_1_2' + 1), s_2]) 3 rfl rfl rfl rfl g9 (Nat.le_of_ble_eq_true rfl) rfl rfl rfl ?_
   refine WL.nil ?_
   exact kh (hK_36' (a_0_5', a_1_5', s_1_2' + 1, c_9') h.1 h.2) [1, 2, 3, 0]
  ·skip
   refine a6 (fun _ hK_47' => ?_)
   refine a4 ?_
   refine wm ?_
   obtain ⟨o_58', h⟩ := h
   refine WL.call (A := []) aap rfl (aaq b s_0 s_1_2' s_2 o_58') rfl ⟨.inl ⟨2, rfl⟩, trivial⟩ rfl rfl ?_
   refine WL.nil ?_
   refine kg (hK_47' [(0, zP b), (3, zP b_1'), (4, zP b_2'), (9, zU (nx s_0 s_1_2'))] _ ?_)
   refine g8 ?_
   refine a6 (fun _ hK_48' => ?_)
   refine a4 ?_
   refine wv (OV.eql rfl rfl) ?_
   refine wa ?_
   refine WL.nil ?_
   refine kg (hK_48' [(0, zP b), (3, zP b_1'), (4, zP b_2'), (9, zU (nx s_0 s_1_2')), (11, zB (decide (nx s_0 s_1_2' = 42)))] _ ?_)
   refine b5 (b := decide (nx s_0 s_1_2' = 42)) rfl (fun hb => ?_) (fun hb => ?_)
   ·replace h := j4 h hb
    refine a4 ?_
    refine wv (OV.loadR rfl (At.own 1 rfl) i8) ?_
    obtain ⟨o_59', h⟩ := h
    refine WL.pick (H' := [pool c_7', HA.blk b_2' (.cells [zI 0, Value.nilFunc].toArray 79 (0, 0)), HA.blk b_1' (.cells [zI a_0_4', a_1_4'].toArray 79 (0, 0)), HA.blk b (.cells [st s_0, zI s_1_2', s_2].toArray 76 (0, 0))]) [3, 0, 1, 2] rfl rfl ?_
    refine WL.callS ae3 rfl (afx a_0_4' a_1_4' c_7' o_59') rfl trivial rfl rfl (fun r H' hS => ?_) (fun c H' hS => ?_)
    ·obtain ⟨sz_25', u_25', B_31', hc, ho⟩ := hS
     cases ho
     replace h := h sz_25' u_25' B_31' hc
     obtain ⟨o_60', h⟩ := h
     refine WL.storeW (vs := [zI sz_25', u_25']) 2 rfl rfl rfl rfl rfl j6 rfl (c9 rfl (c9 o_60' m6)) rfl ?_
     refine WL.nil ?_
     exact kh (hK_46' (B_31', sz_25', u_25') h) [0, 1, 2, 3]
    ·obtain ⟨sz_25', u_25', B_31', hc, ho⟩ := hS
     cases ho
   ·replace h := i9 h hb
    refine a6 (fun _ hK_49' => ?_)
    refine a4 ?_
    refine wv (OV.eql rfl rfl) ?_
    refine wa ?_
    refine WL.nil ?_
    refine kg (hK_49' [(0, zP b), (3, zP b_1'), (4, zP b_2'), (9, zU (nx s_0 s_1_2')), (15, zB (decide (nx s_0 s_1_2' = 43)))] _ ?_)
    refine b5 (b := decide (nx s_0 s_1_2' = 43)) rfl (fun hb => ?_) (fun hb => ?_)
    ·replace h := j4 h hb
     refine x3 2 [0, 1, 2] [HA.blk b_2' (.cells [zI 0, Value.nilFunc].toArray 79 (0, 0)), HA.blk b_1' (.cells [zI a_0_4', a_1_4'].toArray 79 (0, 0)), HA.blk b (.cells [st s_0, zI s_1_2', s_2].toArray 76 (0, 0))] rfl rfl f0 (by kernel_rfl) (fun T_5' hT_5' => ?_)
     refine TW.val (OV.loadR rfl (At.own 1 rfl) i8) rfl rfl rfl ?_
     refine TW.val (OV.loadR rfl (At.own 1 rfl) i8) rfl rfl rfl ?_
     refine TW.nil (hT_5' _ ?_)
     obtain ⟨o_61', h⟩ := h
     refine WLX.pick (H' := [pool c_7', HA.blk b_2' (.cells [zI 0, Value.nilFunc].toArray 79 (0, 0)), HA.blk b_1' (.cells [zI a_0_4', a_1_4'].toArray 79 (0, 0)), HA.blk b (.cells [st s_0, zI s_1_2', s_2].toArray 76 (0, 0))]) [3, 0, 1, 2] rfl rfl ?_
     refine WLX.callS [0, 1, 2] rfl (EN.fn ae3 rfl) rfl (afx a_0_4' a_1_4' c_7' o_61') rfl rfl trivial rfl rfl (fun r H' hS => ?_) (fun c H' hS => ?_)
     ·obtain ⟨sz_26', u_26', B_32', hc, ho⟩ := hS
      cases ho
      replace h := h sz_26' u_26' B_32' hc
      obtain ⟨o_62', h⟩ := h
      refine WLX.callS [0, 1, 2] rfl (EN.fn abf rfl) rfl (abe Tr.cat_op a_0_4' a_1_4' sz_26' u_26' B_32' o_62') rfl rfl trivial rfl rfl (fun r H' hS => ?_) (fun c H' hS => ?_)
      ·obtain ⟨sz_27', u_27', B_33', hc, ho⟩ := hS
       cases ho
       replace h := h sz_27' u_27' B_33' hc
       obtain ⟨o_63', h⟩ := h
       refine WLX.opZ (OpK.storeW (vs := [zI sz_27', u_27']) 2 rfl rfl rfl rfl rfl j6 rfl (c9 rfl (c9 o_63' m6))) rfl ?_
       refine WLX.nil ?_
       exact kh (hK_46' (B_33', sz_27', u_27') h) [0, 1, 2, 3]
      ·obtain ⟨sz_27', u_27', B_33', hc, ho⟩ := hS
       cases ho
     ·obtain ⟨sz_26', u_26', B_32', hc, ho⟩ := hS
      cases ho
    ·replace h := i9 h hb
     refine a6 (fun _ hK_50' => ?_)
     refine a4 ?_
     refine wv (OV.eql rfl rfl) ?_
     refine wa ?_
     refine WL.nil ?_
     refine kg (hK_50' [(0, zP b), (3, zP b_1'), (4, zP b_2'), (9, zU (nx s_0 s_1_2')), (21, zB (decide (nx s_0 s_1_2' = 63)))] _ ?_)
     refine b5 (b := decide (nx s_0 s_1_2' = 63)) rfl (fun hb => ?_) (fun hb => ?_)
     ·replace h := j4 h hb
      refine a4 ?_
      refine wv (OV.loadR rfl (At.own 1 rfl) i8) ?_
      obtain ⟨o_64', h⟩ := h
      refine WL.pick (H' := [pool c_7', HA.blk b_2' (.cells [zI 0, Value.nilFunc].toArray 79 (0, 0)), HA.blk b_1' (.cells [zI a_0_4', a_1_4'].toArray 79 (0, 0)), HA.blk b (.cells [st s_0, zI s_1_2', s_2].toArray 76 (0, 0))]) [3, 0, 1, 2] rfl rfl ?_
      refine WL.callS agv rfl (agt a_0_4' a_1_4' c_7' o_64') rfl trivial rfl rfl (fun r H' hS => ?_) (fun c H' hS => ?_)
      ·obtain ⟨sz_28', u_28', B_34', hc, ho⟩ := hS
       cases ho
       replace h := h sz_28' u_28' B_34' hc
       obtain ⟨o_65', h⟩ := h
       refine WL.storeW (vs := [zI sz_28', u_28']) 2 rfl rfl rfl rfl rfl j6 rfl (c9 rfl (c9 o_65' m6)) rfl ?_
       refine WL.nil ?_
       exact kh (hK_46' (B_34', sz_28', u_28') h) [0, 1, 2, 3]
      ·obtain ⟨sz_28', u_28', B_34', hc, ho⟩ := hS
       cases ho
     ·replace h := i9 h hb
      refine a6 (fun _ hK_51' => ?_)
      refine a4 ?_
      refine wv (OV.eql rfl rfl) ?_
      refine wa ?_
      refine WL.nil ?_
      refine kg (hK_51' [(0, zP b), (3, zP b_1'), (4, zP b_2'), (25, zB (decide (nx s_0 s_1_2' = 123)))] _ ?_)
      refine b5 (b := decide (nx s_0 s_1_2' = 123)) rfl (fun hb => ?_) (fun hb => ?_)
      ·replace h := j4 h hb
       refine a6 (fun _ hK_52' => ?_)
       refine a4 ?_
       refine wm ?_
       refine wv (OV.loadR rfl (At.own 1 rfl) i8) ?_
       obtain ⟨o_66', h⟩ := h
       refine WL.pick (H' := [HA.blk b (.cells [st s_0, zI s_1_2', s_2].toArray 76 (0, 0)), pool c_7', HA.blk b_2' (.cells [zI 0, Value.nilFunc].toArray 79 (0, 0)), HA.blk b_1' (.cells [zI a_0_4', a_1_4'].toArray 79 (0, 0))]) [2, 3, 0, 1] rfl rfl ?_
       refine WL.callS ask rfl (aqw b s_0 s_1_2' s_2 a_0_4' a_1_4' c_7' o_66') rfl trivial rfl rfl (fun r H' hS => ?_) (fun c H' hS => ?_)
       ·rcases hS with ⟨sz_29', u_29', j_5', B_35', hc, ho⟩ | ⟨c_10', p_5', q_5', B_36', hc, ho⟩ <;> cases ho
        replace h := h.1 sz_29' u_29' j_5' B_35' hc
        obtain ⟨o_67', h⟩ := h
        refine WL.storeW (vs := [zI sz_29', u_29']) 3 rfl rfl rfl rfl rfl j6 rfl (c9 rfl (c9 o_67' m6)) rfl ?_
        refine WL.nil ?_
        refine kg (hK_52' [(0, zP b), (3, zP b_1'), (4, zP b_2')] _ ?_)
        refine t8 ?_
        exact kh (hK_36' (sz_29', u_29', j_5', B_35') h.1 h.2) [2, 3, 0, 1]
       ·rcases hS with ⟨sz_29', u_29', j_5', B_35', hc, ho⟩ | ⟨c_10', p_5', q_5', B_36', hc, ho⟩ <;> cases ho
        replace h := h.2 c_10' p_5' q_5' B_36' hc
        exact hE.pan [0, 1] rfl rfl (.inr ⟨_, _, _, _, _, h, rfl⟩)
      ·replace h := i9 h hb
       refine a6 (fun _ hK_53' => ?_)
       refine a4 ?_
       refine wv (OV.loadR rfl (At.own 1 rfl) i8) ?_
       obtain ⟨o_68', h⟩ := h
       refine WL.storeW (vs := [zI a_0_4', a_1_4']) 0 rfl rfl rfl rfl rfl j6 rfl (c9 rfl (c9 o_68' m6)) rfl ?_
       refine WL.nil ?_
       refine kg (hK_53' [(4, zP b_2')] _ ?_)
       refine b9 ?_
       exact hE.ret [2, 3] rfl rfl (.inl ⟨_, _, _, _, _, _, h, rfl⟩) (d8.of1 rfl (RV.row rfl (At.own 0 rfl) i8))
 ·replace h := i9 h hb
  refine t8 ?_
  refine kg (hK_1' [(3, zP b_1'), (4, zP b_2')] _ ?_)
  refine a6 (fun _ hK_54' => ?_)
  refine a4 ?_
  refine wv (OV.loadR rfl (At.own 1 rfl) i8) ?_
  obtain ⟨o_69', h⟩ := h
  refine WL.storeW (vs := [zI a_0_4', a_1_4']) 0 rfl rfl rfl rfl rfl j6 rfl (c9 rfl (c9 o_69' m6)) rfl ?_
  refine WL.nil ?_
  refine kg (hK_54' [(4, zP b_2')] _ ?_)
  refine b9 ?_
  exact hE.ret [2, 3] rfl rfl (.inl ⟨_, _, _, _, _, _, h, rfl⟩) (d8.of1 rfl (RV.row rfl (At.own 0 rfl) i8))
theorem aon (b : Nat) (t : List UInt8) (i : Int) (w : Value) (sa : Int) (a : Value) (B : List (Nat × Obj)) (h : 0 ≤ i ∧ i ≤ (t.length : Int) ∧ t.length ≤ 1048576 ∧ abb sa a) : c8 Tryd.prog 145 [.pointer (some ⟨b, 0, none⟩), .agg [.int .i64 sa, a].toArray] [] [scB b t i w, pool B]
  (fun o => (∃ n u j B', ay7 t i B B' sa a j n u ∧ o = .ret (.agg [.int .i64 n, u].toArray) [scB b t j w, pool B']) ∨ (∃ c p q B', ay9 t i B sa a c p ∧ o = .pan [{ v := n8 c p, recovered := false }] [scB b t q w, pool B'])) := by
 obtain ⟨h0, h1, h2, hr⟩ := h
 refine (aq4 b t i w sa a B (fun n u t' j w' D => t' = t ∧ w' = w ∧ ay7 t i B D sa a j n u) (fun v t' _ w' _ => t' = t ∧ w' = w ∧ ∃ c p, v = n8 c p ∧ ay9 t i B sa a c p) ?_).weak ?_
 ·refine ⟨fun n u j c => acd B c ∧ abb n u ∧ i ≤ j ∧ j ≤ t.length ∧ ∀ x, Is B sa a x → ∃ y, Is c n u y ∧ ∀ r, RP t y j r → RP t x i r, fun _ _ j _ => (t.length - j).toNat, ⟨acd.refl B, hr, by omega, by omega, fun x hx => ⟨x, hx, fun _ h => h⟩⟩, ?_⟩
  rintro n u j c ⟨i1, i2, i3, i4, i5⟩
  by_cases hl : (t.length : Int) ≤ j
  ·rw [if_neg (by simpa using hl)]
   exact ⟨i2.2, rfl, rfl, i1, i2, i3, i4, fun x hx => by obtain ⟨y, y1, y2⟩ := i5 x hx; exact ⟨y, y2 _ (.zero (by omega)), y1⟩⟩
  rw [if_pos (by simpa using hl)]
  refine ⟨fun c' n' u' => acd B c' ∧ abb n' u' ∧ ∀ x, Is B sa a x → ∃ y, Is c' n' u' y ∧ ∀ r, RP t y (j + 1) r → RP t x i r, ?_, by omega, ?_⟩
  ·rintro c' n' u' ⟨j1, j2, j3⟩
   exact ⟨by unfold I64; omega, ⟨j1, j2, by omega, by omega, j3⟩, by show (t.length - (j + 1)).toNat < (t.length - j).toNat; omega⟩
  by_cases c1 : nx t j = 42
  ·rw [if_pos (by simpa using c1)]
   refine ⟨i2.1, ?_⟩
   rintro k v B1 ⟨g1, g2, g3⟩
   refine ⟨g2.2, i1.trans g1, g2, fun x hx => ?_⟩
   obtain ⟨y, y1, y2⟩ := i5 x hx
   exact ⟨_, g3 y y1, fun r hq => y2 _ (.one (by omega) (.inl c1) (by rw [ai1, if_pos c1]; exact hq))⟩
  rw [if_neg (by simpa using c1)]
  by_cases c2 : nx t j = 43
  ·rw [if_pos (by simpa using c2)]
   refine ⟨i2.1, ?_⟩
   rintro k v B1 ⟨g1, g2, g3⟩
   refine ⟨⟨i2.1, g2.1⟩, ?_⟩
   rintro k2 v2 B2 ⟨e1, e2, e3⟩
   refine ⟨e2.2, (i1.trans g1).trans e1, e2, fun x hx => ?_⟩
   obtain ⟨y, y1, y2⟩ := i5 x hx
   exact ⟨_, e3 y _ (y1.more g1) (g3 y y1), fun r hq => y2 _ (.one (by omega) (.inr (.inl c2)) (by rw [ai1, if_neg c1, if_pos c2]; exact hq))⟩
  rw [if_neg (by simpa using c2)]
  by_cases c3 : nx t j = 63
  ·rw [if_pos (by simpa using c3)]
   refine ⟨i2.1, ?_⟩
   rintro k v B1 ⟨g1, g2, g3⟩
   refine ⟨g2.2, i1.trans g1, g2, fun x hx => ?_⟩
   obtain ⟨y, y1, y2⟩ := i5 x hx
   exact ⟨_, g3 y y1, fun r hq => y2 _ (.one (by omega) (.inr (.inr c3)) (by rw [ai1, if_neg c1, if_neg c2]; exact hq))⟩
  rw [if_neg (by simpa using c3)]
  by_cases c4 : nx t j = 123
  ·rw [if_pos (by simpa using c4)]
   refine ⟨⟨by omega, by omega, h2, i2⟩, ?_, ?_⟩
   ·rintro k v q B1 ⟨g1, g2, g3, g4, g5⟩
    refine ⟨g2.2, ⟨i1.trans g1, g2, by omega, g4, fun x hx => ?_⟩, by show (t.length - q).toNat < (t.length - j).toNat; omega⟩
    obtain ⟨y, y1, y2⟩ := i5 x hx
    obtain ⟨z, z1, z2⟩ := g5 y y1
    exact ⟨z, z2, fun r hq => y2 _ (.brace (by omega) c4 z1 hq)⟩
   ·intro cc p q B1 hE
    refine ⟨rfl, rfl, cc, p, rfl, fun x hx => ?_⟩
    obtain ⟨y, y1, y2⟩ := i5 x hx
    exact y2 _ (.braceE (by omega) c4 (hE y y1))
  ·rw [if_neg (by simpa using c4)]
   exact ⟨i2.2, rfl, rfl, i1, i2, i3, i4, fun x hx => by obtain ⟨y, y1, y2⟩ := i5 x hx; exact ⟨y, y2 _ (.zero (by omega)), y1⟩⟩
 ·rintro o (⟨n, u, t', j, w', D, ⟨rfl, rfl, hm⟩, rfl⟩ | ⟨v, t', q, w', D, ⟨rfl, rfl, c, p, rfl, hm⟩, rfl⟩)
  ·exact .inl ⟨n, u, j, D, hm, rfl⟩
  ·exact .inr ⟨c, p, q, D, hm, rfl⟩
end Go.Proofs.YtohnchdnkbadaaaDoor
