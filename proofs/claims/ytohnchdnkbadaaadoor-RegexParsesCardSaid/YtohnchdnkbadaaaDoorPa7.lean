/-
  Merged: RfA.
-/
import Derived.Test.YtohnchdnkbadaaaDoorPa6
set_option maxRecDepth 100000
namespace Go.Proofs.YtohnchdnkbadaaaDoor
open Go Go.RowKit
theorem u5 : l9 Tryd.prog 91 0 = some 0 := by kernel_rfl
theorem t0 : abw Tryd.prog 31 = true := by kernel_rfl
theorem o5 : slB Tryd.prog 31 102 261 = true := by kernel_rfl
theorem aag : abm Tryd.prog 102 = some (ndC ndZ) := by kernel_rfl
theorem act : ajd Tryd.prog 102 = some ((ndC ndZ), 261, 296) := by kernel_rfl
theorem adg : s8 Tryd.prog 31 1 = true := by kernel_rfl
theorem j5 : l9 Tryd.prog 91 1 = some 1 := by kernel_rfl
theorem m4 : abw Tryd.prog 89 = true := by kernel_rfl
theorem o4 : slB Tryd.prog 89 93 6 = true := by kernel_rfl
theorem w7 : l9 Tryd.prog 93 5 = some 5 := by kernel_rfl
theorem v8 : l9 Tryd.prog 93 4 = some 4 := by kernel_rfl
theorem aee : o6 Tryd.prog 81 = true := by kernel_rfl
theorem ann : o6 Tryd.prog 47 = true := by kernel_rfl
theorem w6 : l9 Tryd.prog 93 2 = some 2 := by kernel_rfl
theorem agm : l9 Tryd.prog 93 3 = some 3 := by kernel_rfl
theorem anh : o6 Tryd.prog 46 = true := by kernel_rfl
theorem aa1 : l9 Tryd.prog 93 1 = some 1 := by kernel_rfl
theorem ase : abm Tryd.prog 93 = some [zI 0, zI 0, zI 0, zU 0, zI 0, zI 0] := by kernel_rfl
theorem as0 : s8 Tryd.prog 93 6 = true := by kernel_rfl
theorem auv : RowT Tryd.prog 93 6 := ⟨by kernel_rfl, by kernel_rfl⟩
theorem anw : abm Tryd.prog 169 = some (arr 2 (fun j => zI ((fun _ => 0) j))) := by kernel_rfl
theorem am2 : o6 Tryd.prog 80 = true := by kernel_rfl
theorem y4 : ao5 Tryd.prog 169 3 2 1 = true := by kernel_rfl
def aot (s_1 : Value) (sl : List ND) (op : Int) (a : Int) (b_1' : Int) (K : Int → Value → (List ND) → Prop) : Prop :=
 (((sl.length + 1) + (sl.length + 1) / 4 + 192) * 296 ≤ 281474976710656 ∧ sl.length + 1 ≤ 9223372036854775807) ∧
 (I64 (((sl ++ [(op, (fun _ => false), a, b_1', 0, 0)]).length : Int) - 1)) ∧
 K (((sl ++ [(op, (fun _ => false), a, b_1', 0, 0)]).length : Int) - 1) s_1 (sl ++ [(op, (fun _ => false), a, b_1', 0, 0)])
theorem ayg (b : Nat) (w : Value) (s_1 : Value) (sl : List ND) (op : Int) (a : Int) (b_1' : Int) (K : Int → Value → (List ND) → Prop) (h : aot s_1 sl op a b_1' K) :
  c8 Tryd.prog 81 [zP b, zI op, zI a, zI b_1'] [] [HA.blk b (.cells [w, s_1].toArray 91 (0, 0)), HA.row w 102 261 sl.length (sl.flatMap ndC)] (fun o => (∃ (v : Int) (d_1' : Value) (w_2' : Value) (d : List ND), K v d_1' d ∧ o = .ret (zI v) [HA.blk b (.cells [w_2', d_1'].toArray 91 (0, 0)), HA.row w_2' 102 261 d.length (d.flatMap ndC)]) ∨ (False)) := by
 unfold aot at h
 refine c6 (n := 28) (L0 := [(0, zP b), (1, zI op), (2, zI a), (3, zI b_1')]) Tryd.func81 rfl rfl rfl rfl (fun w0 M Q hE => ?_)
 refine a6 (fun _ hK => ?_)
 refine a4 ?_
 refine wa ?_
 refine WL.nil ?_
 refine kg (hK [(0, zP b), (1, zI op), (2, zI a), (3, zI b_1')] _ ?_)
 refine a6 (fun _ hK_1' => ?_)
 refine a4 ?_
 refine wm ?_
 refine wm ?_
 refine wv (OV.nilCheck rfl) ?_
 refine wv (OV.fieldAddr0 rfl u5) ?_
 refine wv (OV.load rfl (At.own 0 rfl) rfl t0) ?_
 refine wm ?_
 refine wm ?_
 refine wm ?_
 refine wv (OV.build rfl (cs := ndC (op, (fun _ => false), a, b_1', 0, 0)) (by kernel_rfl)) ?_
 refine WL.make (MV.buildSlice1 (cs := ndC (op, (fun _ => false), a, b_1', 0, 0)) rfl rfl o5 aag (n7 _) (n7 _)) rfl rfl rfl (fun b_2' => ?_)
 obtain ⟨o, h⟩ := h
 refine WL.append (f := ndC) (ms := [(op, (fun _ => false), a, b_1', 0, 0)]) 2 0 rfl rfl rfl rfl (afi _ _) rfl n7 (by decide) (ac1 (op, (fun _ => false), a, b_1', 0, 0)) o5 act rfl o rfl rfl (fun w_1' => ?_)
 refine wv (OV.nilCheck rfl) ?_
 refine wv (OV.fieldAddr0 rfl u5) ?_
 refine WL.storeSl (cs' := [w_1', s_1]) 1 2 rfl rfl rfl rfl adg (Nat.le_of_ble_eq_true rfl) rfl rfl ?_
 refine WL.nil ?_
 refine kg (hK_1' [(0, zP b)] _ ?_)
 refine a6 (fun _ hK_2' => ?_)
 refine a4 ?_
 refine wm ?_
 refine wv (OV.nilCheck rfl) ?_
 refine wv (OV.fieldAddr0 rfl u5) ?_
 refine wv (OV.load rfl (At.own 1 rfl) rfl t0) ?_
 refine wv (OV.lenRow 2 rfl rfl o5) ?_
 obtain ⟨o_1', h⟩ := h
 refine wv (OV.sub rfl rfl o_1') ?_
 refine wa ?_
 refine WL.nil ?_
 refine kg (hK_2' [(8, zI (((sl ++ [(op, (fun _ => false), a, b_1', 0, 0)]).length : Int) - 1))] _ ?_)
 refine b9 ?_
 exact hE.ret [1, 2] rfl rfl (.inl ⟨_, _, _, _, h, rfl⟩) (d8.of1 rfl (RV.tmp rfl))
abbrev stB (b : Nat) (w1 w2 : Value) : HA := .blk b (.cells [w1, w2].toArray 91 (0, 0))
abbrev ndR (w : Value) (n : List ND) : HA := .row w 102 261 n.length (n.flatMap ndC)
abbrev frR (w : Value) (s : List FR) : HA := .row w 93 6 s.length (s.flatMap frC)
theorem aej (b : Nat) (w1 : Value) (n : List ND) (w2 : Value) (op a c : Int) (h : n.length ≤ 100000000) : c8 Tryd.prog 81 [.pointer (some ⟨b, 0, none⟩), .int .i64 op, .int .i64 a, .int .i64 c] [] [stB b w1 w2, ndR w1 n]
  (fun o => ∃ w, o = .ret (.int .i64 (n.length : Int)) [stB b w w2, ndR w (n ++ [(op, fun _ => false, a, c, 0, 0)])]) := by
 refine (ayg b w1 w2 n op a c (fun v x l => v = (n.length : Int) ∧ x = w2 ∧ l = n ++ [(op, fun _ => false, a, c, 0, 0)]) ?_).weak ?_
 ·unfold aot
  have hl : (n ++ [(op, fun _ => false, a, c, 0, 0)]).length = n.length + 1 := by simp
  rw [hl]
  exact ⟨by omega, by unfold I64; omega, by omega, rfl, rfl⟩
 ·rintro o (⟨v, x, w, l, ⟨rfl, rfl, rfl⟩, rfl⟩ | h)
  ·exact ⟨w, rfl⟩
  ·exact h.elim
def aju (n : List ND) (s : List FR) (n2 : List ND) (s2 : List FR) : Prop := s2.length = s.length ∧ n2.length ≤ n.length + 1 ∧ ∀ a rest, y6 n s (a :: rest) → NOK n → y6 n2 s2 (a.settle :: rest) ∧ NOK n2
def atx (n : List ND) (s : List FR) (n2 : List ND) (s2 : List FR) : Prop := s2.length = s.length ∧ n2.length ≤ n.length + 3 ∧ ∀ a rest, y6 n s (a :: rest) → NOK n → y6 n2 s2 (a.fold :: rest) ∧ NOK n2
def ak2 (n : List ND) (s : List FR) (n2 : List ND) (s2 : List FR) : Prop := s2.length = s.length ∧ n2.length ≤ n.length + 4 ∧ ∀ a rest, y6 n s (a :: rest) → NOK n → y6 n2 s2 (a.close :: rest) ∧ NOK n2
def ag5 (sl : List ND) (sl_1' : List FR) (K : (List ND) → (List FR) → Prop) : Prop :=
 (I64 ((sl_1'.length : Int) - 1)) ∧
 (0 ≤ ((sl_1'.length : Int) - 1) ∧ ((sl_1'.length : Int) - 1) < (sl_1'.length : Int)) ∧
 (if (decide ((sl_1'.getD (((sl_1'.length : Int) - 1)).toNat default).2.2.2.2.2 < 0)) = true then
  K sl sl_1'
 else
  ∃ (J0 : (List ND) → (List FR) → Prop),
   (∀ (l : List ND) (l_1' : List FR), J0 l l_1' →
    ((((sl_1'.length : Int) - 1)).toNat < l_1'.length) ∧
    K l (l_1'.set ((((sl_1'.length : Int) - 1)).toNat) ((l_1'.getD (((sl_1'.length : Int) - 1)).toNat default).1, (l_1'.getD (((sl_1'.length : Int) - 1)).toNat default).2.1, (l_1'.getD (((sl_1'.length : Int) - 1)).toNat default).2.2.1, (l_1'.getD (((sl_1'.length : Int) - 1)).toNat default).2.2.2.1, (l_1'.getD (((sl_1'.length : Int) - 1)).toNat default).2.2.2.2.1, (-1)))) ∧
   (if (decide ((sl_1'.getD (((sl_1'.length : Int) - 1)).toNat default).2.2.2.2.1 < 0)) = true then
    J0 sl (sl_1'.set ((((sl_1'.length : Int) - 1)).toNat) ((sl_1'.getD (((sl_1'.length : Int) - 1)).toNat default).1, (sl_1'.getD (((sl_1'.length : Int) - 1)).toNat default).2.1, (sl_1'.getD (((sl_1'.length : Int) - 1)).toNat default).2.2.1, (sl_1'.getD (((sl_1'.length : Int) - 1)).toNat default).2.2.2.1, (sl_1'.getD (((sl_1'.length : Int) - 1)).toNat default).2.2.2.2.2, (sl_1'.getD (((sl_1'.length : Int) - 1)).toNat default).2.2.2.2.2))
   else
    (sl.length ≤ 100000000) ∧
    (
     J0 (sl ++ [(2, fun _ => false, (sl_1'.getD (((sl_1'.length : Int) - 1)).toNat default).2.2.2.2.1, (sl_1'.getD (((sl_1'.length : Int) - 1)).toNat default).2.2.2.2.2, 0, 0)]) (sl_1'.set ((((sl_1'.length : Int) - 1)).toNat) ((sl_1'.getD (((sl_1'.length : Int) - 1)).toNat default).1, (sl_1'.getD (((sl_1'.length : Int) - 1)).toNat default).2.1, (sl_1'.getD (((sl_1'.length : Int) - 1)).toNat default).2.2.1, (sl_1'.getD (((sl_1'.length : Int) - 1)).toNat default).2.2.2.1, (sl.length : Int), (sl_1'.getD (((sl_1'.length : Int) - 1)).toNat default).2.2.2.2.2)))))
theorem aq5 (b : Nat) (w : Value) (w_1' : Value) (sl : List ND) (sl_1' : List FR) (K : (List ND) → (List FR) → Prop) (h : ag5 sl sl_1' K) :
  c8 Tryd.prog 47 [zP b] [] [HA.blk b (.cells [w, w_1'].toArray 91 (0, 0)), HA.row w 102 261 sl.length (sl.flatMap ndC), HA.row w_1' 93 6 sl_1'.length (sl_1'.flatMap frC)] (fun o => (∃ (w_5' : Value) (d : List ND) (d_1' : List FR), K d d_1' ∧ o = .ret (Value.tuple #[]) [HA.blk b (.cells [w_5', w_1'].toArray 91 (0, 0)), HA.row w_5' 102 261 d.length (d.flatMap ndC), HA.row w_1' 93 6 d_1'.length (d_1'.flatMap frC)]) ∨ (False)) := by
 unfold ag5 at h
 refine c6 (n := 47) (L0 := [(0, zP b)]) Tryd.func47 rfl rfl rfl rfl (fun w0 M Q hE => ?_)
 refine a6 (fun _ hK => ?_)
 refine n9 10 [] f0 (by kernel_rfl) rfl (fun T hT => ?_)
 refine fv (fun _ => OV.move rfl) ?_
 refine fv (fun _ => OV.nilCheck rfl) ?_
 refine fv (fun _ => OV.fieldAddr0 rfl j5) ?_
 refine fv (fun _ => OV.load rfl (At.own 0 rfl) rfl m4) ?_
 refine fv (fun _ => OV.move rfl) ?_
 refine fv (fun _ => OV.nilCheck rfl) ?_
 refine fv (fun _ => OV.fieldAddr0 rfl j5) ?_
 refine fv (fun _ => OV.load rfl (At.own 0 rfl) rfl m4) ?_
 refine fv (fun _ => OV.lenRow 2 rfl rfl o4) ?_
 obtain ⟨o, h⟩ := h
 refine fv (fun _ => OV.sub rfl rfl o) ?_
 refine FL.weak (L' := fun γ => [(0, zP b), (6, w_1'), (12, zI ((sl_1'.length : Int) - 1))]) (fun γ => ⟨rfl, rfl, rfl, trivial⟩) (FL.nil (hT (fun γ => [(0, zP b), (6, w_1'), (12, zI ((sl_1'.length : Int) - 1))]) (fun γ => ?_)))
 obtain ⟨o_1', h⟩ := h
 refine wv (OV.indexRow 2 rfl rfl rfl o4 o_1') ?_
 refine wa ?_
 refine WL.nil ?_
 refine kg (hK [(0, zP b), (2, Value.pointer (some ⟨(o8 w_1'), (((sl_1'.length : Int) - 1)).toNat * 6, none⟩))] _ ?_)
 refine a6 (fun _ hK_1' => ?_)
 refine a6 (fun _ hK_2' => ?_)
 refine a4 ?_
 refine wm ?_
 refine wv (OV.nilCheck rfl) ?_
 refine wv (OV.fieldAddr rfl w7) ?_
 refine wv (OV.loadEF (f := frC) (o := 5) 2 rfl rfl m8 (by omega) rfl a7) ?_
 refine wv (OV.lss rfl rfl) ?_
 refine WL.nil ?_
 refine kg (hK_2' [(0, zP b), (2, Value.pointer (some ⟨(o8 w_1'), (((sl_1'.length : Int) - 1)).toNat * 6, none⟩)), (18, zB (decide ((sl_1'.getD (((sl_1'.length : Int) - 1)).toNat default).2.2.2.2.2 < 0)))] _ ?_)
 refine b5 (b := decide ((sl_1'.getD (((sl_1'.length : Int) - 1)).toNat default).2.2.2.2.2 < 0)) rfl (fun hb => ?_) (fun hb => ?_)
 ·replace h := j4 h hb
  refine b9 ?_
  exact hE.ret [0, 1, 2] rfl rfl (.inl ⟨_, _, _, h, rfl⟩) (d8.none rfl)
 ·replace h := i9 h hb
  refine b7 ?_
  refine kg (hK_1' [(0, zP b), (2, Value.pointer (some ⟨(o8 w_1'), (((sl_1'.length : Int) - 1)).toNat * 6, none⟩))] _ ?_)
  obtain ⟨J0, hJ, h⟩ := h
  refine m7 (X := Value × (List ND) × (List FR)) (fun σ => J0 σ.2.1 σ.2.2) (fun σ => [(2, Value.pointer (some ⟨(o8 w_1'), (((sl_1'.length : Int) - 1)).toNat * 6, none⟩))]) (fun σ => [HA.blk b (.cells [σ.1, w_1'].toArray 91 (0, 0)), HA.row σ.1 102 261 σ.2.1.length (σ.2.1.flatMap ndC), HA.row w_1' 93 6 σ.2.2.length (σ.2.2.flatMap frC)]) ?_ (fun K0_4' hK_4' => ?_)
  ·rintro ⟨w_3', l, l_1'⟩ hj
   replace h := hJ l l_1' hj
   show WC _ _ _ _ [(2, Value.pointer (some ⟨(o8 w_1'), (((sl_1'.length : Int) - 1)).toNat * 6, none⟩))] [HA.blk b (.cells [w_3', w_1'].toArray 91 (0, 0)), HA.row w_3' 102 261 l.length (l.flatMap ndC), HA.row w_1' 93 6 l_1'.length (l_1'.flatMap frC)]
   refine a4 ?_
   refine wm ?_
   refine wv (OV.nilCheck rfl) ?_
   refine wv (OV.fieldAddr rfl w7) ?_
   obtain ⟨o_3', h⟩ := h
   refine WL.storeEF (f := frC) (o := 5) (z := ((l_1'.getD (((sl_1'.length : Int) - 1)).toNat default).1, (l_1'.getD (((sl_1'.length : Int) - 1)).toNat default).2.1, (l_1'.getD (((sl_1'.length : Int) - 1)).toNat default).2.2.1, (l_1'.getD (((sl_1'.length : Int) - 1)).toNat default).2.2.2.1, (l_1'.getD (((sl_1'.length : Int) - 1)).toNat default).2.2.2.2.1, (-1))) 2 rfl rfl rfl m8 o_3' (by decide) rfl g9 rfl rfl rfl ?_
   refine WL.nil ?_
   exact hE.norm [0, 1, 2] rfl rfl (.inl ⟨_, _, _, h, rfl⟩) (d8.none rfl)
  ·skip
   refine a6 (fun _ hK_5' => ?_)
   refine a4 ?_
   refine wm ?_
   refine wv (OV.nilCheck rfl) ?_
   refine wv (OV.fieldAddr rfl v8) ?_
   refine wv (OV.loadEF (f := frC) (o := 4) 2 rfl rfl m8 (by omega) rfl a7) ?_
   refine wv (OV.lss rfl rfl) ?_
   refine WL.nil ?_
   refine kg (hK_5' [(0, zP b), (2, Value.pointer (some ⟨(o8 w_1'), (((sl_1'.length : Int) - 1)).toNat * 6, none⟩)), (23, zB (decide ((sl_1'.getD (((sl_1'.length : Int) - 1)).toNat default).2.2.2.2.1 < 0)))] _ ?_)
   refine b5 (b := decide ((sl_1'.getD (((sl_1'.length : Int) - 1)).toNat default).2.2.2.2.1 < 0)) rfl (fun hb => ?_) (fun hb => ?_)
   ·replace h := j4 h hb
    refine a4 ?_
    refine wm ?_
    refine wm ?_
    refine wv (OV.nilCheck rfl) ?_
    refine wv (OV.fieldAddr rfl w7) ?_
    refine wv (OV.loadEF (f := frC) (o := 5) 2 rfl rfl m8 (by omega) rfl a7) ?_
    refine wv (OV.nilCheck rfl) ?_
    refine wv (OV.fieldAddr rfl v8) ?_
    refine WL.storeEF (f := frC) (o := 4) (z := ((sl_1'.getD (((sl_1'.length : Int) - 1)).toNat default).1, (sl_1'.getD (((sl_1'.length : Int) - 1)).toNat default).2.1, (sl_1'.getD (((sl_1'.length : Int) - 1)).toNat default).2.2.1, (sl_1'.getD (((sl_1'.length : Int) - 1)).toNat default).2.2.2.1, (sl_1'.getD (((sl_1'.length : Int) - 1)).toNat default).2.2.2.2.2, (sl_1'.getD (((sl_1'.length : Int) - 1)).toNat default).2.2.2.2.2)) 2 rfl rfl rfl m8 (by omega) (by decide) rfl g9 rfl rfl rfl ?_
    refine WL.nil ?_
    exact kh (hK_4' (w, sl, sl_1'.set ((((sl_1'.length : Int) - 1)).toNat) ((sl_1'.getD (((sl_1'.length : Int) - 1)).toNat default).1, (sl_1'.getD (((sl_1'.length : Int) - 1)).toNat default).2.1, (sl_1'.getD (((sl_1'.length : Int) - 1)).toNat default).2.2.1, (sl_1'.getD (((sl_1'.length : Int) - 1)).toNat default).2.2.2.1, (sl_1'.getD (((sl_1'.length : Int) - 1)).toNat default).2.2.2.2.2, (sl_1'.getD (((sl_1'.length : Int) - 1)).toNat default).2.2.2.2.2)) h) [0, 1, 2]
   ·replace h := i9 h hb
    refine x3 10 [2] [HA.row w_1' 93 6 sl_1'.length (sl_1'.flatMap frC)] rfl rfl f0 (by kernel_rfl) (fun T_2' hT_2' => ?_)
    refine TW.val (OV.move rfl) rfl rfl rfl ?_
    refine TW.val (OV.move rfl) rfl rfl rfl ?_
    refine TW.val (OV.move rfl) rfl rfl rfl ?_
    refine TW.val (OV.nilCheck rfl) rfl rfl rfl ?_
    refine TW.val (OV.fieldAddr rfl v8) rfl rfl rfl ?_
    refine TW.val (OV.loadEF (f := frC) (o := 4) 0 rfl rfl m8 (by omega) rfl a7) rfl rfl rfl ?_
    refine TW.val (OV.move rfl) rfl rfl rfl ?_
    refine TW.val (OV.nilCheck rfl) rfl rfl rfl ?_
    refine TW.val (OV.fieldAddr rfl w7) rfl rfl rfl ?_
    refine TW.val (OV.loadEF (f := frC) (o := 5) 0 rfl rfl m8 (by omega) rfl a7) rfl rfl rfl ?_
    refine TW.nil (hT_2' _ ?_)
    obtain ⟨o_4', h⟩ := h
    refine WLX.callS [0] rfl (EN.fn aee rfl) rfl (aej b w sl w_1' 2 ((sl_1'.getD (((sl_1'.length : Int) - 1)).toNat default).2.2.2.2.1) ((sl_1'.getD (((sl_1'.length : Int) - 1)).toNat default).2.2.2.2.2) o_4') rfl rfl trivial rfl rfl (fun r H' hS => ?_) (fun c H' hS => ?_)
    ·obtain ⟨w_4', ho⟩ := hS
     cases ho
     refine WLX.op [2] rfl rfl (OpK.val (OV.nilCheck rfl) rfl rfl) rfl ?_
     refine WLX.op [2] rfl rfl (OpK.val (OV.fieldAddr rfl v8) rfl rfl) rfl ?_
     refine WLX.opZ (OpK.storeEF (f := frC) (o := 4) (z := ((sl_1'.getD (((sl_1'.length : Int) - 1)).toNat default).1, (sl_1'.getD (((sl_1'.length : Int) - 1)).toNat default).2.1, (sl_1'.getD (((sl_1'.length : Int) - 1)).toNat default).2.2.1, (sl_1'.getD (((sl_1'.length : Int) - 1)).toNat default).2.2.2.1, (sl.length : Int), (sl_1'.getD (((sl_1'.length : Int) - 1)).toNat default).2.2.2.2.2)) 2 rfl rfl rfl m8 (by omega) (by decide) rfl g9 rfl rfl) rfl ?_
     refine WLX.nil ?_
     exact kh (hK_4' (w_4', sl ++ [(2, fun _ => false, (sl_1'.getD (((sl_1'.length : Int) - 1)).toNat default).2.2.2.2.1, (sl_1'.getD (((sl_1'.length : Int) - 1)).toNat default).2.2.2.2.2, 0, 0)], sl_1'.set ((((sl_1'.length : Int) - 1)).toNat) ((sl_1'.getD (((sl_1'.length : Int) - 1)).toNat default).1, (sl_1'.getD (((sl_1'.length : Int) - 1)).toNat default).2.1, (sl_1'.getD (((sl_1'.length : Int) - 1)).toNat default).2.2.1, (sl_1'.getD (((sl_1'.length : Int) - 1)).toNat default).2.2.2.1, (sl.length : Int), (sl_1'.getD (((sl_1'.length : Int) - 1)).toNat default).2.2.2.2.2)) h) [0, 1, 2]
    ·obtain ⟨w_4', ho⟩ := hS
     cases ho
theorem ahm (b : Nat) (w1 : Value) (n : List ND) (w2 : Value) (s : List FR) (h : n.length ≤ 10000000 ∧ 0 < s.length ∧ s.length ≤ 10000) : c8 Tryd.prog 47 [.pointer (some ⟨b, 0, none⟩)] [] [stB b w1 w2, ndR w1 n, frR w2 s]
  (fun o => ∃ w n2 s2, aju n s n2 s2 ∧ o = .ret (.tuple #[]) [stB b w w2, ndR w n2, frR w2 s2]) := by
 obtain ⟨hn, hs, hs2⟩ := h
 refine (aq5 b w1 w2 n s (fun n2 s2 => aju n s n2 s2) ?_).weak ?_
 ·obtain ⟨pre, f, rfl⟩ := abk hs
  unfold ag5
  simp only [ae2, aat, aa9]
  have hl : (pre ++ [f]).length = pre.length + 1 := by simp
  ·refine ⟨by unfold I64; omega, by omega, ?_⟩
   by_cases hf : f.2.2.2.2.2 < 0
   ·rw [if_pos (by simpa using hf)]
    refine ⟨rfl, by omega, fun a rest hr hk => ⟨?_, hk⟩⟩
    rw [y6.snoc] at hr ⊢
    obtain ⟨r1, r2, r3, r4, r5, r6⟩ := hr.1
    obtain ⟨e1, e2⟩ := r6.neg hf
    refine ⟨⟨r1, r2, r3, r4, ?_, ?_⟩, hr.2⟩
    ·show IxR n _ a.rowS
     unfold AF.rowS; rw [e1]; exact r5
    ·exact e2
   ·rw [if_neg (by simpa using hf)]
    refine ⟨fun l s2 => ∃ g : FR, s2 = pre ++ [g] ∧ l.length ≤ n.length + 1 ∧ ∀ a rest, y6 n (pre ++ [f]) (a :: rest) → NOK n → NOK l ∧ y6 l pre rest ∧ FrR l (g.1, g.2.1, g.2.2.1, g.2.2.2.1, g.2.2.2.2.1, -1) a.settle, ?_, ?_⟩
    ·rintro l s2 ⟨g, rfl, g1, g2⟩
     simp only [aat, aa9]
     refine ⟨by simp, by simp, by omega, fun a rest hr hk => ?_⟩
     obtain ⟨q1, q2, q3⟩ := g2 a rest hr hk
     exact ⟨y6.snoc.2 ⟨q3, q2⟩, q1⟩
    ·by_cases hw : f.2.2.2.2.1 < 0
     ·rw [if_pos (by simpa using hw)]
      refine ⟨_, rfl, by omega, fun a rest hr hk => ?_⟩
      rw [y6.snoc] at hr
      obtain ⟨r1, r2, r3, r4, r5, r6⟩ := hr.1
      obtain ⟨e1, _⟩ := r5.neg hw
      obtain ⟨y, e2, e3⟩ := r6.pos hf
      refine ⟨hk, hr.2, r1, r2, r3, r4, ?_, rfl⟩
      show IxR n _ a.rowS
      unfold AF.rowS; rw [e2, e1]; exact e3
     ·rw [if_neg (by simpa using hw)]
      refine ⟨by omega, _, rfl, by simp, fun a rest hr hk => ?_⟩
      rw [y6.snoc] at hr
      obtain ⟨r1, r2, r3, r4, r5, r6⟩ := hr.1
      obtain ⟨x, e1, e0⟩ := r5.pos hw
      obtain ⟨y, e2, e3⟩ := r6.pos hf
      have hd := ajo (op := 2) (.inl rfl) e0 e3
      refine ⟨hk.snoc hd, ajj.more _ hr.2, r1, r2.more _, r3.more _, r4, ?_, rfl⟩
      show IxR _ _ a.rowS
      unfold AF.rowS; rw [e2, e1]; exact hd
 ·rintro o (⟨w, n2, s2, hK, rfl⟩ | h)
  ·exact ⟨w, n2, s2, hK, rfl⟩
  ·exact h.elim
def aki (sl : List ND) (sl_1' : List FR) (K : (List ND) → (List FR) → Prop) : Prop :=
 (sl.length ≤ 10000000 ∧ 0 < sl_1'.length ∧ sl_1'.length ≤ 10000) ∧
 (∀ (n : List ND) (f : List FR), aju sl sl_1' n f →
  (I64 ((f.length : Int) - 1)) ∧
  (0 ≤ ((f.length : Int) - 1) ∧ ((f.length : Int) - 1) < (f.length : Int)) ∧
  ∃ (J0 : (List ND) → (List FR) → Prop),
   (∀ (l : List ND) (l_1' : List FR), J0 l l_1' →
    ∃ (J0_1' : (List ND) → (List FR) → Prop),
     (∀ (l_2' : List ND) (l_3' : List FR), J0_1' l_2' l_3' →
      ((((f.length : Int) - 1)).toNat < l_3'.length) ∧
      K l_2' (l_3'.set ((((f.length : Int) - 1)).toNat) ((l_3'.getD (((f.length : Int) - 1)).toNat default).1, (l_3'.getD (((f.length : Int) - 1)).toNat default).2.1, (l_3'.getD (((f.length : Int) - 1)).toNat default).2.2.1, (l_3'.getD (((f.length : Int) - 1)).toNat default).2.2.2.1, (-1), (l_3'.getD (((f.length : Int) - 1)).toNat default).2.2.2.2.2))) ∧
     ((((f.length : Int) - 1)).toNat < l_1'.length) ∧
     (if (decide ((l_1'.getD (((f.length : Int) - 1)).toNat default).2.2.1 < 0)) = true then
      ((((f.length : Int) - 1)).toNat < l_1'.length) ∧
      ((((f.length : Int) - 1)).toNat < l_1'.length) ∧
      J0_1' l (l_1'.set ((((f.length : Int) - 1)).toNat) ((l_1'.getD (((f.length : Int) - 1)).toNat default).1, (l_1'.getD (((f.length : Int) - 1)).toNat default).2.1, (l_1'.getD (((f.length : Int) - 1)).toNat default).2.2.2.2.1, (l_1'.getD (((f.length : Int) - 1)).toNat default).2.2.2.1, (l_1'.getD (((f.length : Int) - 1)).toNat default).2.2.2.2.1, (l_1'.getD (((f.length : Int) - 1)).toNat default).2.2.2.2.2))
     else
      ((((f.length : Int) - 1)).toNat < l_1'.length) ∧
      (if (decide ((l_1'.getD (((f.length : Int) - 1)).toNat default).2.2.2.1 = 38)) = true then
       ((((f.length : Int) - 1)).toNat < l_1'.length) ∧
       ((((f.length : Int) - 1)).toNat < l_1'.length) ∧
       (l.length ≤ 100000000) ∧
       (
        ((((f.length : Int) - 1)).toNat < l_1'.length) ∧
        J0_1' (l ++ [(5, fun _ => false, (l_1'.getD (((f.length : Int) - 1)).toNat default).2.2.1, (l_1'.getD (((f.length : Int) - 1)).toNat default).2.2.2.2.1, 0, 0)]) (l_1'.set ((((f.length : Int) - 1)).toNat) ((l_1'.getD (((f.length : Int) - 1)).toNat default).1, (l_1'.getD (((f.length : Int) - 1)).toNat default).2.1, (l.length : Int), (l_1'.getD (((f.length : Int) - 1)).toNat default).2.2.2.1, (l_1'.getD (((f.length : Int) - 1)).toNat default).2.2.2.2.1, (l_1'.getD (((f.length : Int) - 1)).toNat default).2.2.2.2.2)))
      else
       ((((f.length : Int) - 1)).toNat < l_1'.length) ∧
       ((((f.length : Int) - 1)).toNat < l_1'.length) ∧
       (l.length ≤ 100000000) ∧
       (
        ((((f.length : Int) - 1)).toNat < l_1'.length) ∧
        J0_1' (l ++ [(6, fun _ => false, (l_1'.getD (((f.length : Int) - 1)).toNat default).2.2.1, (l_1'.getD (((f.length : Int) - 1)).toNat default).2.2.2.2.1, 0, 0)]) (l_1'.set ((((f.length : Int) - 1)).toNat) ((l_1'.getD (((f.length : Int) - 1)).toNat default).1, (l_1'.getD (((f.length : Int) - 1)).toNat default).2.1, (l.length : Int), (l_1'.getD (((f.length : Int) - 1)).toNat default).2.2.2.1, (l_1'.getD (((f.length : Int) - 1)).toNat default).2.2.2.2.1, (l_1'.getD (((f.length : Int) - 1)).toNat default).2.2.2.2.2)))))) ∧
   (if (decide ((f.getD (((f.length : Int) - 1)).toNat default).2.2.2.2.1 < 0)) = true then
    (n.length ≤ 100000000) ∧
    (
     J0 (n ++ [(0, fun _ => false, 0, 0, 0, 0)]) (f.set ((((f.length : Int) - 1)).toNat) ((f.getD (((f.length : Int) - 1)).toNat default).1, (f.getD (((f.length : Int) - 1)).toNat default).2.1, (f.getD (((f.length : Int) - 1)).toNat default).2.2.1, (f.getD (((f.length : Int) - 1)).toNat default).2.2.2.1, (n.length : Int), (f.getD (((f.length : Int) - 1)).toNat default).2.2.2.2.2)))
   else
    J0 n f))
theorem aww (b : Nat) (w : Value) (w_1' : Value) (sl : List ND) (sl_1' : List FR) (K : (List ND) → (List FR) → Prop) (h : aki sl sl_1' K) :
  c8 Tryd.prog 46 [zP b] [] [HA.blk b (.cells [w, w_1'].toArray 91 (0, 0)), HA.row w 102 261 sl.length (sl.flatMap ndC), HA.row w_1' 93 6 sl_1'.length (sl_1'.flatMap frC)] (fun o => (∃ (w_11' : Value) (d : List ND) (d_1' : List FR), K d d_1' ∧ o = .ret (Value.tuple #[]) [HA.blk b (.cells [w_11', w_1'].toArray 91 (0, 0)), HA.row w_11' 102 261 d.length (d.flatMap ndC), HA.row w_1' 93 6 d_1'.length (d_1'.flatMap frC)]) ∨ (False)) := by
 unfold aki at h
 refine c6 (n := 72) (L0 := [(0, zP b)]) Tryd.func46 rfl rfl rfl rfl (fun w0 M Q hE => ?_)
 refine a6 (fun _ hK => ?_)
 refine a4 ?_
 refine wm ?_
 obtain ⟨o, h⟩ := h
 refine WL.callS ann rfl (ahm b w sl w_1' sl_1' o) rfl trivial rfl rfl (fun r H' hS => ?_) (fun c H' hS => ?_)
 ·obtain ⟨w_2', n, f, hc, ho⟩ := hS
  cases ho
  replace h := h n f hc
  refine WL.nil ?_
  refine kg (hK [(0, zP b)] _ ?_)
  refine a6 (fun _ hK_1' => ?_)
  refine n9 10 [] f0 (by kernel_rfl) rfl (fun T hT => ?_)
  refine fv (fun _ => OV.move rfl) ?_
  refine fv (fun _ => OV.nilCheck rfl) ?_
  refine fv (fun _ => OV.fieldAddr0 rfl j5) ?_
  refine fv (fun _ => OV.load rfl (At.own 0 rfl) rfl m4) ?_
  refine fv (fun _ => OV.move rfl) ?_
  refine fv (fun _ => OV.nilCheck rfl) ?_
  refine fv (fun _ => OV.fieldAddr0 rfl j5) ?_
  refine fv (fun _ => OV.load rfl (At.own 0 rfl) rfl m4) ?_
  refine fv (fun _ => OV.lenRow 2 rfl rfl o4) ?_
  obtain ⟨o_1', h⟩ := h
  refine fv (fun _ => OV.sub rfl rfl o_1') ?_
  refine FL.weak (L' := fun γ => [(0, zP b), (8, w_1'), (14, zI ((f.length : Int) - 1))]) (fun γ => ⟨rfl, rfl, rfl, trivial⟩) (FL.nil (hT (fun γ => [(0, zP b), (8, w_1'), (14, zI ((f.length : Int) - 1))]) (fun γ => ?_)))
  obtain ⟨o_2', h⟩ := h
  refine wv (OV.indexRow 2 rfl rfl rfl o4 o_2') ?_
  refine wa ?_
  refine WL.nil ?_
  refine kg (hK_1' [(0, zP b), (2, Value.pointer (some ⟨(o8 w_1'), (((f.length : Int) - 1)).toNat * 6, none⟩))] _ ?_)
  obtain ⟨J0, hJ, h⟩ := h
  refine m7 (X := Value × (List ND) × (List FR)) (fun σ => J0 σ.2.1 σ.2.2) (fun σ => [(0, zP b), (2, Value.pointer (some ⟨(o8 w_1'), (((f.length : Int) - 1)).toNat * 6, none⟩))]) (fun σ => [HA.blk b (.cells [σ.1, w_1'].toArray 91 (0, 0)), HA.row σ.1 102 261 σ.2.1.length (σ.2.1.flatMap ndC), HA.row w_1' 93 6 σ.2.2.length (σ.2.2.flatMap frC)]) ?_ (fun K0_3' hK_3' => ?_)
  ·rintro ⟨w_4', l, l_1'⟩ hj
   replace h := hJ l l_1' hj
   show WC _ _ _ _ [(0, zP b), (2, Value.pointer (some ⟨(o8 w_1'), (((f.length : Int) - 1)).toNat * 6, none⟩))] [HA.blk b (.cells [w_4', w_1'].toArray 91 (0, 0)), HA.row w_4' 102 261 l.length (l.flatMap ndC), HA.row w_1' 93 6 l_1'.length (l_1'.flatMap frC)]
   obtain ⟨J0_1', hJ_1', h⟩ := h
   refine m7 (X := Value × (List ND) × (List FR)) (fun σ => J0_1' σ.2.1 σ.2.2) (fun σ => [(2, Value.pointer (some ⟨(o8 w_1'), (((f.length : Int) - 1)).toNat * 6, none⟩))]) (fun σ => [HA.blk b (.cells [σ.1, w_1'].toArray 91 (0, 0)), HA.row σ.1 102 261 σ.2.1.length (σ.2.1.flatMap ndC), HA.row w_1' 93 6 σ.2.2.length (σ.2.2.flatMap frC)]) ?_ (fun K0_6' hK_6' => ?_)
   ·rintro ⟨w_7', l_2', l_3'⟩ hj
    replace h := hJ_1' l_2' l_3' hj
    show WC _ _ _ _ [(2, Value.pointer (some ⟨(o8 w_1'), (((f.length : Int) - 1)).toNat * 6, none⟩))] [HA.blk b (.cells [w_7', w_1'].toArray 91 (0, 0)), HA.row w_7' 102 261 l_2'.length (l_2'.flatMap ndC), HA.row w_1' 93 6 l_3'.length (l_3'.flatMap frC)]
    refine a4 ?_
    refine wm ?_
    refine wv (OV.nilCheck rfl) ?_
    refine wv (OV.fieldAddr rfl v8) ?_
    obtain ⟨o_16', h⟩ := h
    refine WL.storeEF (f := frC) (o := 4) (z := ((l_3'.getD (((f.length : Int) - 1)).toNat default).1, (l_3'.getD (((f.length : Int) - 1)).toNat default).2.1, (l_3'.getD (((f.length : Int) - 1)).toNat default).2.2.1, (l_3'.getD (((f.length : Int) - 1)).toNat default).2.2.2.1, (-1), (l_3'.getD (((f.length : Int) - 1)).toNat default).2.2.2.2.2)) 2 rfl rfl rfl m8 o_16' (by decide) rfl g9 rfl rfl rfl ?_
    refine WL.nil ?_
    exact hE.norm [0, 1, 2] rfl rfl (.inl ⟨_, _, _, h, rfl⟩) (d8.none rfl)
   ·skip
    refine a6 (fun _ hK_7' => ?_)
    refine a4 ?_
    refine wm ?_
    refine wv (OV.nilCheck rfl) ?_
    refine wv (OV.fieldAddr rfl w6) ?_
    obtain ⟨o_17', h⟩ := h
    refine wv (OV.loadEF (f := frC) (o := 2) 2 rfl rfl m8 o_17' rfl a7) ?_
    refine wv (OV.lss rfl rfl) ?_
    refine WL.nil ?_
    refine kg (hK_7' [(0, zP b), (2, Value.pointer (some ⟨(o8 w_1'), (((f.length : Int) - 1)).toNat * 6, none⟩)), (30, zB (decide ((l_1'.getD (((f.length : Int) - 1)).toNat default).2.2.1 < 0)))] _ ?_)
    refine b5 (b := decide ((l_1'.getD (((f.length : Int) - 1)).toNat default).2.2.1 < 0)) rfl (fun hb => ?_) (fun hb => ?_)
    ·replace h := j4 h hb
     refine a4 ?_
     refine wm ?_
     refine wm ?_
     refine wv (OV.nilCheck rfl) ?_
     refine wv (OV.fieldAddr rfl v8) ?_
     obtain ⟨o_18', h⟩ := h
     refine wv (OV.loadEF (f := frC) (o := 4) 2 rfl rfl m8 o_18' rfl a7) ?_
     refine wv (OV.nilCheck rfl) ?_
     refine wv (OV.fieldAddr rfl w6) ?_
     obtain ⟨o_19', h⟩ := h
     refine WL.storeEF (f := frC) (o := 2) (z := ((l_1'.getD (((f.length : Int) - 1)).toNat default).1, (l_1'.getD (((f.length : Int) - 1)).toNat default).2.1, (l_1'.getD (((f.length : Int) - 1)).toNat default).2.2.2.2.1, (l_1'.getD (((f.length : Int) - 1)).toNat default).2.2.2.1, (l_1'.getD (((f.length : Int) - 1)).toNat default).2.2.2.2.1, (l_1'.getD (((f.length : Int) - 1)).toNat default).2.2.2.2.2)) 2 rfl rfl rfl m8 o_19' (by decide) rfl g9 rfl rfl rfl ?_
     refine WL.nil ?_
     exact kh (hK_6' (w_4', l, l_1'.set ((((f.length : Int) - 1)).toNat) ((l_1'.getD (((f.length : Int) - 1)).toNat default).1, (l_1'.getD (((f.length : Int) - 1)).toNat default).2.1, (l_1'.getD (((f.length : Int) - 1)).toNat default).2.2.2.2.1, (l_1'.getD (((f.length : Int) - 1)).toNat default).2.2.2.1, (l_1'.getD (((f.length : Int) - 1)).toNat default).2.2.2.2.1, (l_1'.getD (((f.length : Int) - 1)).toNat default).2.2.2.2.2)) h) [0, 1, 2]
    ·replace h := i9 h hb
     refine a6 (fun _ hK_8' => ?_)
     refine a4 ?_
     refine wm ?_
     refine wv (OV.nilCheck rfl) ?_
     refine wv (OV.fieldAddr rfl agm) ?_
     obtain ⟨o_20', h⟩ := h
     refine wv (OV.loadEF (f := frC) (o := 3) 2 rfl rfl m8 o_20' rfl acb) ?_
     refine wv (OV.eql rfl rfl) ?_
     refine WL.nil ?_
     refine kg (hK_8' [(0, zP b), (2, Value.pointer (some ⟨(o8 w_1'), (((f.length : Int) - 1)).toNat * 6, none⟩)), (42, zB (decide ((l_1'.getD (((f.length : Int) - 1)).toNat default).2.2.2.1 = 38)))] _ ?_)
     refine b5 (b := decide ((l_1'.getD (((f.length : Int) - 1)).toNat default).2.2.2.1 = 38)) rfl (fun hb => ?_) (fun hb => ?_)
     ·replace h := j4 h hb
      refine x3 10 [2] [HA.row w_1' 93 6 l_1'.length (l_1'.flatMap frC)] rfl rfl f0 (by kernel_rfl) (fun T_3' hT_3' => ?_)
      refine TW.val (OV.move rfl) rfl rfl rfl ?_
      refine TW.val (OV.move rfl) rfl rfl rfl ?_
      refine TW.val (OV.move rfl) rfl rfl rfl ?_
      refine TW.val (OV.nilCheck rfl) rfl rfl rfl ?_
      refine TW.val (OV.fieldAddr rfl w6) rfl rfl rfl ?_
      obtain ⟨o_21', h⟩ := h
      refine TW.val (OV.loadEF (f := frC) (o := 2) 0 rfl rfl m8 o_21' rfl a7) rfl rfl rfl ?_
      refine TW.val (OV.move rfl) rfl rfl rfl ?_
      refine TW.val (OV.nilCheck rfl) rfl rfl rfl ?_
      refine TW.val (OV.fieldAddr rfl v8) rfl rfl rfl ?_
      obtain ⟨o_22', h⟩ := h
      refine TW.val (OV.loadEF (f := frC) (o := 4) 0 rfl rfl m8 o_22' rfl a7) rfl rfl rfl ?_
      refine TW.nil (hT_3' _ ?_)
      obtain ⟨o_23', h⟩ := h
      refine WLX.callS [0] rfl (EN.fn aee rfl) rfl (aej b w_4' l w_1' 5 ((l_1'.getD (((f.length : Int) - 1)).toNat default).2.2.1) ((l_1'.getD (((f.length : Int) - 1)).toNat default).2.2.2.2.1) o_23') rfl rfl trivial rfl rfl (fun r H' hS => ?_) (fun c H' hS => ?_)
      ·obtain ⟨w_8', ho⟩ := hS
       cases ho
       refine WLX.op [2] rfl rfl (OpK.val (OV.nilCheck rfl) rfl rfl) rfl ?_
       refine WLX.op [2] rfl rfl (OpK.val (OV.fieldAddr rfl w6) rfl rfl) rfl ?_
       obtain ⟨o_24', h⟩ := h
       refine WLX.opZ (OpK.storeEF (f := frC) (o := 2) (z := ((l_1'.getD (((f.length : Int) - 1)).toNat default).1, (l_1'.getD (((f.length : Int) - 1)).toNat default).2.1, (l.length : Int), (l_1'.getD (((f.length : Int) - 1)).toNat default).2.2.2.1, (l_1'.getD (((f.length : Int) - 1)).toNat default).2.2.2.2.1, (l_1'.getD (((f.length : Int) - 1)).toNat default).2.2.2.2.2)) 2 rfl rfl rfl m8 o_24' (by decide) rfl g9 rfl rfl) rfl ?_
       refine WLX.nil ?_
       exact kh (hK_6' (w_8', l ++ [(5, fun _ => false, (l_1'.getD (((f.length : Int) - 1)).toNat default).2.2.1, (l_1'.getD (((f.length : Int) - 1)).toNat default).2.2.2.2.1, 0, 0)], l_1'.set ((((f.length : Int) - 1)).toNat) ((l_1'.getD (((f.length : Int) - 1)).toNat default).1, (l_1'.getD (((f.length : Int) - 1)).toNat default).2.1, (l.length : Int), (l_1'.getD (((f.length : Int) - 1)).toNat default).2.2.2.1, (l_1'.getD (((f.length : Int) - 1)).toNat default).2.2.2.2.1, (l_1'.getD (((f.length : Int) - 1)).toNat default).2.2.2.2.2)) h) [0, 1, 2]
      ·obtain ⟨w_8', ho⟩ := hS
       cases ho
     ·replace h := i9 h hb
      refine x3 10 [2] [HA.row w_1' 93 6 l_1'.length (l_1'.flatMap frC)] rfl rfl f0 (by kernel_rfl) (fun T_4' hT_4' => ?_)
      refine TW.val (OV.move rfl) rfl rfl rfl ?_
      refine TW.val (OV.move rfl) rfl rfl rfl ?_
      refine TW.val (OV.move rfl) rfl rfl rfl ?_
      refine TW.val (OV.nilCheck rfl) rfl rfl rfl ?_
      refine TW.val (OV.fieldAddr rfl w6) rfl rfl rfl ?_
      obtain ⟨o_25', h⟩ := h
      refine TW.val (OV.loadEF (f := frC) (o := 2) 0 rfl rfl m8 o_25' rfl a7) rfl rfl rfl ?_
      refine TW.val (OV.move rfl) rfl rfl rfl ?_
      refine TW.val (OV.nilCheck rfl) rfl rfl rfl ?_
      refine TW.val (OV.fieldAddr rfl v8) rfl rfl rfl ?_
      obtain ⟨o_26', h⟩ := h
      refine TW.val (OV.loadEF (f := frC) (o := 4) 0 rfl rfl m8 o_26' rfl a7) rfl rfl rfl ?_
      refine TW.nil (hT_4' _ ?_)
      obtain ⟨o_27', h⟩ := h
      refine WLX.callS [0] rfl (EN.fn aee rfl) rfl (aej b w_4' l w_1' 6 ((l_1'.getD (((f.length : Int) - 1)).toNat default).2.2.1) ((l_1'.getD (((f.length : Int) - 1)).toNat default).2.2.2.2.1) o_27') rfl rfl trivial rfl rfl (fun r H' hS => ?_) (fun c H' hS => ?_)
      ·obtain ⟨w_9', ho⟩ := hS
       cases ho
       refine WLX.op [2] rfl rfl (OpK.val (OV.nilCheck rfl) rfl rfl) rfl ?_
       refine WLX.op [2] rfl rfl (OpK.val (OV.fieldAddr rfl w6) rfl rfl) rfl ?_
       obtain ⟨o_28', h⟩ := h
       refine WLX.opZ (OpK.storeEF (f := frC) (o := 2) (z := ((l_1'.getD (((f.length : Int) - 1)).toNat default).1, (l_1'.getD (((f.length : Int) - 1)).toNat default).2.1, (l.length : Int), (l_1'.getD (((f.length : Int) - 1)).toNat default).2.2.2.1, (l_1'.getD (((f.length : Int) - 1)).toNat default).2.2.2.2.1, (l_1'.getD (((f.length : Int) - 1)).toNat default).2.2.2.2.2)) 2 rfl rfl rfl m8 o_28' (by decide) rfl g9 rfl rfl) rfl ?_
       refine WLX.nil ?_
       exact kh (hK_6' (w_9', l ++ [(6, fun _ => false, (l_1'.getD (((f.length : Int) - 1)).toNat default).2.2.1, (l_1'.getD (((f.length : Int) - 1)).toNat default).2.2.2.2.1, 0, 0)], l_1'.set ((((f.length : Int) - 1)).toNat) ((l_1'.getD (((f.length : Int) - 1)).toNat default).1, (l_1'.getD (((f.length : Int) - 1)).toNat default).2.1, (l.length : Int), (l_1'.getD (((f.length : Int) - 1)).toNat default).2.2.2.1, (l_1'.getD (((f.length : Int) - 1)).toNat default).2.2.2.2.1, (l_1'.getD (((f.length : Int) - 1)).toNat default).2.2.2.2.2)) h) [0, 1, 2]
      ·obtain ⟨w_9', ho⟩ := hS
       cases ho
  ·skip
   refine a6 (fun _ hK_9' => ?_)
   refine a4 ?_
   refine wm ?_
   refine wv (OV.nilCheck rfl) ?_
   refine wv (OV.fieldAddr rfl v8) ?_
   refine wv (OV.loadEF (f := frC) (o := 4) 2 rfl rfl m8 (by omega) rfl a7) ?_
   refine wv (OV.lss rfl rfl) ?_
   refine WL.nil ?_
   refine kg (hK_9' [(0, zP b), (2, Value.pointer (some ⟨(o8 w_1'), (((f.length : Int) - 1)).toNat * 6, none⟩)), (20, zB (decide ((f.getD (((f.length : Int) - 1)).toNat default).2.2.2.2.1 < 0)))] _ ?_)
   refine b5 (b := decide ((f.getD (((f.length : Int) - 1)).toNat default).2.2.2.2.1 < 0)) rfl (fun hb => ?_) (fun hb => ?_)
   ·replace h := j4 h hb
    refine a4 ?_
    refine wm ?_
    refine wm ?_
    obtain ⟨o_29', h⟩ := h
    refine WL.callS aee rfl (aej b w_2' n w_1' 0 0 0 o_29') rfl trivial rfl rfl (fun r H' hS => ?_) (fun c H' hS => ?_)
    ·obtain ⟨w_10', ho⟩ := hS
     cases ho
     refine wv (OV.nilCheck rfl) ?_
     refine wv (OV.fieldAddr rfl v8) ?_
     refine WL.storeEF (f := frC) (o := 4) (z := ((f.getD (((f.length : Int) - 1)).toNat default).1, (f.getD (((f.length : Int) - 1)).toNat default).2.1, (f.getD (((f.length : Int) - 1)).toNat default).2.2.1, (f.getD (((f.length : Int) - 1)).toNat default).2.2.2.1, (n.length : Int), (f.getD (((f.length : Int) - 1)).toNat default).2.2.2.2.2)) 2 rfl rfl rfl m8 (by omega) (by decide) rfl g9 rfl rfl rfl ?_
     refine WL.nil ?_
     exact kh (hK_3' (w_10', n ++ [(0, fun _ => false, 0, 0, 0, 0)], f.set ((((f.length : Int) - 1)).toNat) ((f.getD (((f.length : Int) - 1)).toNat default).1, (f.getD (((f.length : Int) - 1)).toNat default).2.1, (f.getD (((f.length : Int) - 1)).toNat default).2.2.1, (f.getD (((f.length : Int) - 1)).toNat default).2.2.2.1, (n.length : Int), (f.getD (((f.length : Int) - 1)).toNat default).2.2.2.2.2)) h) [0, 1, 2]
    ·obtain ⟨w_10', ho⟩ := hS
     cases ho
   ·replace h := i9 h hb
    refine b7 ?_
    exact kh (hK_3' (w_2', n, f) h) [0, 1, 2]
 ·obtain ⟨w_2', n, f, hc, ho⟩ := hS
  cases ho
theorem akl (b : Nat) (w1 : Value) (n : List ND) (w2 : Value) (s : List FR) (h : n.length ≤ 10000000 ∧ 0 < s.length ∧ s.length ≤ 10000) : c8 Tryd.prog 46 [.pointer (some ⟨b, 0, none⟩)] [] [stB b w1 w2, ndR w1 n, frR w2 s]
  (fun o => ∃ w n2 s2, atx n s n2 s2 ∧ o = .ret (.tuple #[]) [stB b w w2, ndR w n2, frR w2 s2]) := by
 obtain ⟨hn, hs, hs2⟩ := h
 refine (aww b w1 w2 n s (fun n2 s2 => atx n s n2 s2) ?_).weak ?_
 ·unfold aki
  refine ⟨⟨hn, hs, hs2⟩, ?_⟩
  rintro n1 s1 ⟨l1, l2, l3⟩
  obtain ⟨pre, f, rfl⟩ := abk (s := s1) (by omega)
  simp only [ae2, aat, aa9]
  refine ⟨by unfold I64; omega, by omega, ?_⟩
  refine ⟨fun l s2 => ∃ g : FR, s2 = pre ++ [g] ∧ l.length ≤ n.length + 2 ∧ ∀ a rest, y6 n s (a :: rest) → NOK n → NOK l ∧ y6 l pre rest ∧ g.1 = a.place ∧ IxR l g.2.1 a.alt ∧ IxR l g.2.2.1 a.meet ∧ g.2.2.2.1 = a.sign ∧ Den l g.2.2.2.2.1 a.rowT ∧ g.2.2.2.2.2 = -1, ?_, ?_⟩
  ·rintro l s2 ⟨g, rfl, g1, g2⟩
   simp only [aat, aa9]
   have hpl : pre.length < (pre ++ [g]).length := by simp
   refine ⟨fun l' s3 => ∃ q : FR, s3 = pre ++ [q] ∧ l'.length ≤ n.length + 3 ∧ ∀ a rest, y6 n s (a :: rest) → NOK n → NOK l' ∧ y6 l' pre rest ∧ FrR l' (q.1, q.2.1, q.2.2.1, q.2.2.2.1, -1, q.2.2.2.2.2) a.fold, ?_, hpl, ?_⟩
   ·rintro l' s3 ⟨q, rfl, q1, q2⟩
    simp only [aat, aa9]
    refine ⟨by simp, by simp only [List.length_append, List.length_cons, List.length_nil] at l1 ⊢; omega, by omega, fun a rest hr hk => ?_⟩
    obtain ⟨e1, e2, e3⟩ := q2 a rest hr hk
    exact ⟨y6.snoc.2 ⟨e3, e2⟩, e1⟩
   ·by_cases hm : g.2.2.1 < 0
    ·rw [if_pos (by simpa using hm)]
     refine ⟨hpl, hpl, _, rfl, by omega, fun a rest hr hk => ?_⟩
     obtain ⟨r0, r1, r2, r3, r4, r5, r6, r7⟩ := g2 a rest hr hk
     refine ⟨r0, r1, r2, r3, ?_, r5, rfl, r7⟩
     show IxR l _ (some (ae8 a a.rowT))
     unfold ae8; rw [(r4.neg hm).1]; exact r6
    ·rw [if_neg (by simpa using hm)]
     have key : ∀ op : Int, (op = 5 ∨ op = 6) → (∀ a rest, y6 n s (a :: rest) → NOK n → op = if a.sign = 38 then 5 else 6) → ∃ q : FR, pre ++ [(g.1, g.2.1, (l.length : Int), g.2.2.2.1, g.2.2.2.2.1, g.2.2.2.2.2)] = pre ++ [q] ∧ (l ++ [(op, fun _ => false, g.2.2.1, g.2.2.2.2.1, 0, 0)]).length ≤ n.length + 3 ∧ ∀ a rest, y6 n s (a :: rest) → NOK n → NOK (l ++ [(op, fun _ => false, g.2.2.1, g.2.2.2.2.1, 0, 0)]) ∧ y6 (l ++ [(op, fun _ => false, g.2.2.1, g.2.2.2.2.1, 0, 0)]) pre rest ∧ FrR (l ++ [(op, fun _ => false, g.2.2.1, g.2.2.2.2.1, 0, 0)]) (q.1, q.2.1, q.2.2.1, q.2.2.2.1, -1, q.2.2.2.2.2) a.fold := by
      intro op ho hsig
      refine ⟨_, rfl, by simp; omega, fun a rest hr hk => ?_⟩
      obtain ⟨r0, r1, r2, r3, r4, r5, r6, r7⟩ := g2 a rest hr hk
      obtain ⟨z, e1, e2⟩ := r4.pos hm
      have hd := ajo (op := op) (by omega) e2 r6
      refine ⟨r0.snoc hd, ajj.more _ r1, r2, r3.more _, ?_, r5, rfl, r7⟩
      show IxR _ _ (some (ae8 a a.rowT))
      have : ae8 a a.rowT = ako op z a.rowT := by
       have h0 := hsig a rest hr hk
       unfold ae8 arf ako
       rw [e1]
       simp only
       by_cases hsg : a.sign = 38
       ·rw [if_pos hsg] at h0 ⊢; subst h0; rfl
       ·rw [if_neg hsg] at h0 ⊢; subst h0; rfl
      rw [this]; exact hd
     refine ⟨hpl, ?_⟩
     by_cases hg : g.2.2.2.1 = 38
     ·rw [if_pos (by simpa using hg)]
      exact ⟨hpl, hpl, by omega, hpl, key 5 (.inl rfl) fun a rest hr hk => by rw [if_pos (by rw [← (g2 a rest hr hk).2.2.2.2.2.1]; exact hg)]⟩
     ·rw [if_neg (by simpa using hg)]
      exact ⟨hpl, hpl, by omega, hpl, key 6 (.inr rfl) fun a rest hr hk => by rw [if_neg (by rw [← (g2 a rest hr hk).2.2.2.2.2.1]; exact hg)]⟩
  ·by_cases hw : f.2.2.2.2.1 < 0
   ·rw [if_pos (by simpa using hw)]
    refine ⟨by omega, _, rfl, by simp; omega, fun a rest hr hk => ?_⟩
    obtain ⟨k1, k2⟩ := l3 a rest hr hk
    rw [y6.snoc] at k1
    obtain ⟨r1, r2, r3, r4, r5, r6⟩ := k1.1
    refine ⟨k2.snoc (aod _), ajj.more _ k1.2, r1, r2.more _, r3.more _, r4, ?_, r6⟩
    have : a.rowT = .eps := by
     have h0 := (r5.neg hw).1
     unfold AF.rowT
     rw [show a.rowS = none from h0]; rfl
    rw [this]; exact aod _
   ·rw [if_neg (by simpa using hw)]
    refine ⟨_, rfl, by omega, fun a rest hr hk => ?_⟩
    obtain ⟨k1, k2⟩ := l3 a rest hr hk
    rw [y6.snoc] at k1
    obtain ⟨r1, r2, r3, r4, r5, r6⟩ := k1.1
    obtain ⟨x, e1, e2⟩ := r5.pos hw
    refine ⟨k2, k1.2, r1, r2, r3, r4, ?_, r6⟩
    have : a.rowT = x := by
     unfold AF.rowT
     rw [show a.rowS = some x from e1]; rfl
    rw [this]; exact e2
 ·rintro o (⟨w, n2, s2, hK, rfl⟩ | h)
  ·exact ⟨w, n2, s2, hK, rfl⟩
  ·exact h.elim
def ail (sl : List ND) (sl_1' : List FR) (K : (List ND) → (List FR) → Prop) : Prop :=
 (sl.length ≤ 10000000 ∧ 0 < sl_1'.length ∧ sl_1'.length ≤ 10000) ∧
 (∀ (n : List ND) (f : List FR), atx sl sl_1' n f →
  (I64 ((f.length : Int) - 1)) ∧
  (0 ≤ ((f.length : Int) - 1) ∧ ((f.length : Int) - 1) < (f.length : Int)) ∧
  ∃ (J0 : (List ND) → (List FR) → Prop),
   (∀ (l : List ND) (l_1' : List FR), J0 l l_1' →
    ((((f.length : Int) - 1)).toNat < l_1'.length) ∧
    K l (l_1'.set ((((f.length : Int) - 1)).toNat) ((l_1'.getD (((f.length : Int) - 1)).toNat default).1, (l_1'.getD (((f.length : Int) - 1)).toNat default).2.1, (-1), (l_1'.getD (((f.length : Int) - 1)).toNat default).2.2.2.1, (l_1'.getD (((f.length : Int) - 1)).toNat default).2.2.2.2.1, (l_1'.getD (((f.length : Int) - 1)).toNat default).2.2.2.2.2))) ∧
   (if (decide ((f.getD (((f.length : Int) - 1)).toNat default).2.1 < 0)) = true then
    J0 n (f.set ((((f.length : Int) - 1)).toNat) ((f.getD (((f.length : Int) - 1)).toNat default).1, (f.getD (((f.length : Int) - 1)).toNat default).2.2.1, (f.getD (((f.length : Int) - 1)).toNat default).2.2.1, (f.getD (((f.length : Int) - 1)).toNat default).2.2.2.1, (f.getD (((f.length : Int) - 1)).toNat default).2.2.2.2.1, (f.getD (((f.length : Int) - 1)).toNat default).2.2.2.2.2))
   else
    (n.length ≤ 100000000) ∧
    (
     J0 (n ++ [(3, fun _ => false, (f.getD (((f.length : Int) - 1)).toNat default).2.1, (f.getD (((f.length : Int) - 1)).toNat default).2.2.1, 0, 0)]) (f.set ((((f.length : Int) - 1)).toNat) ((f.getD (((f.length : Int) - 1)).toNat default).1, (n.length : Int), (f.getD (((f.length : Int) - 1)).toNat default).2.2.1, (f.getD (((f.length : Int) - 1)).toNat default).2.2.2.1, (f.getD (((f.length : Int) - 1)).toNat default).2.2.2.2.1, (f.getD (((f.length : Int) - 1)).toNat default).2.2.2.2.2)))))
theorem auo (b : Nat) (w : Value) (w_1' : Value) (sl : List ND) (sl_1' : List FR) (K : (List ND) → (List FR) → Prop) (h : ail sl sl_1' K) :
  c8 Tryd.prog 45 [zP b] [] [HA.blk b (.cells [w, w_1'].toArray 91 (0, 0)), HA.row w 102 261 sl.length (sl.flatMap ndC), HA.row w_1' 93 6 sl_1'.length (sl_1'.flatMap frC)] (fun o => (∃ (w_6' : Value) (d : List ND) (d_1' : List FR), K d d_1' ∧ o = .ret (Value.tuple #[]) [HA.blk b (.cells [w_6', w_1'].toArray 91 (0, 0)), HA.row w_6' 102 261 d.length (d.flatMap ndC), HA.row w_1' 93 6 d_1'.length (d_1'.flatMap frC)]) ∨ (False)) := by
 unfold ail at h
 refine c6 (n := 44) (L0 := [(0, zP b)]) Tryd.func45 rfl rfl rfl rfl (fun w0 M Q hE => ?_)
 refine a6 (fun _ hK => ?_)
 refine a4 ?_
 refine wm ?_
 obtain ⟨o, h⟩ := h
 refine WL.callS anh rfl (akl b w sl w_1' sl_1' o) rfl trivial rfl rfl (fun r H' hS => ?_) (fun c H' hS => ?_)
 ·obtain ⟨w_2', n, f, hc, ho⟩ := hS
  cases ho
  replace h := h n f hc
  refine WL.nil ?_
  refine kg (hK [(0, zP b)] _ ?_)
  refine a6 (fun _ hK_1' => ?_)
  refine n9 10 [] f0 (by kernel_rfl) rfl (fun T hT => ?_)
  refine fv (fun _ => OV.move rfl) ?_
  refine fv (fun _ => OV.nilCheck rfl) ?_
  refine fv (fun _ => OV.fieldAddr0 rfl j5) ?_
  refine fv (fun _ => OV.load rfl (At.own 0 rfl) rfl m4) ?_
  refine fv (fun _ => OV.move rfl) ?_
  refine fv (fun _ => OV.nilCheck rfl) ?_
  refine fv (fun _ => OV.fieldAddr0 rfl j5) ?_
  refine fv (fun _ => OV.load rfl (At.own 0 rfl) rfl m4) ?_
  refine fv (fun _ => OV.lenRow 2 rfl rfl o4) ?_
  obtain ⟨o_1', h⟩ := h
  refine fv (fun _ => OV.sub rfl rfl o_1') ?_
  refine FL.weak (L' := fun γ => [(0, zP b), (8, w_1'), (14, zI ((f.length : Int) - 1))]) (fun γ => ⟨rfl, rfl, rfl, trivial⟩) (FL.nil (hT (fun γ => [(0, zP b), (8, w_1'), (14, zI ((f.length : Int) - 1))]) (fun γ => ?_)))
  obtain ⟨o_2', h⟩ := h
  refine wv (OV.indexRow 2 rfl rfl rfl o4 o_2') ?_
  refine wa ?_
  refine WL.nil ?_
  refine kg (hK_1' [(0, zP b), (2, Value.pointer (some ⟨(o8 w_1'), (((f.length : Int) - 1)).toNat * 6, none⟩))] _ ?_)
  obtain ⟨J0, hJ, h⟩ := h
  refine m7 (X := Value × (List ND) × (List FR)) (fun σ => J0 σ.2.1 σ.2.2) (fun σ => [(2, Value.pointer (some ⟨(o8 w_1'), (((f.length : Int) - 1)).toNat * 6, none⟩))]) (fun σ => [HA.blk b (.cells [σ.1, w_1'].toArray 91 (0, 0)), HA.row σ.1 102 261 σ.2.1.length (σ.2.1.flatMap ndC), HA.row w_1' 93 6 σ.2.2.length (σ.2.2.flatMap frC)]) ?_ (fun K0_3' hK_3' => ?_)
  ·rintro ⟨w_4', l, l_1'⟩ hj
   replace h := hJ l l_1' hj
   show WC _ _ _ _ [(2, Value.pointer (some ⟨(o8 w_1'), (((f.length : Int) - 1)).toNat * 6, none⟩))] [HA.blk b (.cells [w_4', w_1'].toArray 91 (0, 0)), HA.row w_4' 102 261 l.length (l.flatMap ndC), HA.row w_1' 93 6 l_1'.length (l_1'.flatMap frC)]
   refine a4 ?_
   refine wm ?_
   refine wv (OV.nilCheck rfl) ?_
   refine wv (OV.fieldAddr rfl w6) ?_
   obtain ⟨o_4', h⟩ := h
   refine WL.storeEF (f := frC) (o := 2) (z := ((l_1'.getD (((f.length : Int) - 1)).toNat default).1, (l_1'.getD (((f.length : Int) - 1)).toNat default).2.1, (-1), (l_1'.getD (((f.length : Int) - 1)).toNat default).2.2.2.1, (l_1'.getD (((f.length : Int) - 1)).toNat default).2.2.2.2.1, (l_1'.getD (((f.length : Int) - 1)).toNat default).2.2.2.2.2)) 2 rfl rfl rfl m8 o_4' (by decide) rfl g9 rfl rfl rfl ?_
   refine WL.nil ?_
   exact hE.norm [0, 1, 2] rfl rfl (.inl ⟨_, _, _, h, rfl⟩) (d8.none rfl)
  ·skip
   refine a6 (fun _ hK_4' => ?_)
   refine a4 ?_
   refine wm ?_
   refine wv (OV.nilCheck rfl) ?_
   refine wv (OV.fieldAddr rfl aa1) ?_
   refine wv (OV.loadEF (f := frC) (o := 1) 2 rfl rfl m8 (by omega) rfl a7) ?_
   refine wv (OV.lss rfl rfl) ?_
   refine WL.nil ?_
   refine kg (hK_4' [(0, zP b), (2, Value.pointer (some ⟨(o8 w_1'), (((f.length : Int) - 1)).toNat * 6, none⟩)), (20, zB (decide ((f.getD (((f.length : Int) - 1)).toNat default).2.1 < 0)))] _ ?_)
   refine b5 (b := decide ((f.getD (((f.length : Int) - 1)).toNat default).2.1 < 0)) rfl (fun hb => ?_) (fun hb => ?_)
   ·replace h := j4 h hb
    refine a4 ?_
    refine wm ?_
    refine wm ?_
    refine wv (OV.nilCheck rfl) ?_
    refine wv (OV.fieldAddr rfl w6) ?_
    refine wv (OV.loadEF (f := frC) (o := 2) 2 rfl rfl m8 (by omega) rfl a7) ?_
    refine wv (OV.nilCheck rfl) ?_
    refine wv (OV.fieldAddr rfl aa1) ?_
    refine WL.storeEF (f := frC) (o := 1) (z := ((f.getD (((f.length : Int) - 1)).toNat default).1, (f.getD (((f.length : Int) - 1)).toNat default).2.2.1, (f.getD (((f.length : Int) - 1)).toNat default).2.2.1, (f.getD (((f.length : Int) - 1)).toNat default).2.2.2.1, (f.getD (((f.length : Int) - 1)).toNat default).2.2.2.2.1, (f.getD (((f.length : Int) - 1)).toNat default).2.2.2.2.2)) 2 rfl rfl rfl m8 (by omega) (by decide) rfl g9 rfl rfl rfl ?_
    refine WL.nil ?_
    exact kh (hK_3' (w_2', n, f.set ((((f.length : Int) - 1)).toNat) ((f.getD (((f.length : Int) - 1)).toNat default).1, (f.getD (((f.length : Int) - 1)).toNat default).2.2.1, (f.getD (((f.length : Int) - 1)).toNat default).2.2.1, (f.getD (((f.length : Int) - 1)).toNat default).2.2.2.1, (f.getD (((f.length : Int) - 1)).toNat default).2.2.2.2.1, (f.getD (((f.length : Int) - 1)).toNat default).2.2.2.2.2)) h) [0, 1, 2]
   ·replace h := i9 h hb
    refine x3 10 [2] [HA.row w_1' 93 6 f.length (f.flatMap frC)] rfl rfl f0 (by kernel_rfl) (fun T_2' hT_2' => ?_)
    refine TW.val (OV.move rfl) rfl rfl rfl ?_
    refine TW.val (OV.move rfl) rfl rfl rfl ?_
    refine TW.val (OV.move rfl) rfl rfl rfl ?_
    refine TW.val (OV.nilCheck rfl) rfl rfl rfl ?_
    refine TW.val (OV.fieldAddr rfl aa1) rfl rfl rfl ?_
    refine TW.val (OV.loadEF (f := frC) (o := 1) 0 rfl rfl m8 (by omega) rfl a7) rfl rfl rfl ?_
    refine TW.val (OV.move rfl) rfl rfl rfl ?_
    refine TW.val (OV.nilCheck rfl) rfl rfl rfl ?_
    refine TW.val (OV.fieldAddr rfl w6) rfl rfl rfl ?_
    refine TW.val (OV.loadEF (f := frC) (o := 2) 0 rfl rfl m8 (by omega) rfl a7) rfl rfl rfl ?_
    refine TW.nil (hT_2' _ ?_)
    obtain ⟨o_5', h⟩ := h
    refine WLX.callS [0] rfl (EN.fn aee rfl) rfl (aej b w_2' n w_1' 3 ((f.getD (((f.length : Int) - 1)).toNat default).2.1) ((f.getD (((f.length : Int) - 1)).toNat default).2.2.1) o_5') rfl rfl trivial rfl rfl (fun r H' hS => ?_) (fun c H' hS => ?_)
    ·obtain ⟨w_5', ho⟩ := hS
     cases ho
     refine WLX.op [2] rfl rfl (OpK.val (OV.nilCheck rfl) rfl rfl) rfl ?_
     refine WLX.op [2] rfl rfl (OpK.val (OV.fieldAddr rfl aa1) rfl rfl) rfl ?_
     refine WLX.opZ (OpK.storeEF (f := frC) (o := 1) (z := ((f.getD (((f.length : Int) - 1)).toNat default).1, (n.length : Int), (f.getD (((f.length : Int) - 1)).toNat default).2.2.1, (f.getD (((f.length : Int) - 1)).toNat default).2.2.2.1, (f.getD (((f.length : Int) - 1)).toNat default).2.2.2.2.1, (f.getD (((f.length : Int) - 1)).toNat default).2.2.2.2.2)) 2 rfl rfl rfl m8 (by omega) (by decide) rfl g9 rfl rfl) rfl ?_
     refine WLX.nil ?_
     exact kh (hK_3' (w_5', n ++ [(3, fun _ => false, (f.getD (((f.length : Int) - 1)).toNat default).2.1, (f.getD (((f.length : Int) - 1)).toNat default).2.2.1, 0, 0)], f.set ((((f.length : Int) - 1)).toNat) ((f.getD (((f.length : Int) - 1)).toNat default).1, (n.length : Int), (f.getD (((f.length : Int) - 1)).toNat default).2.2.1, (f.getD (((f.length : Int) - 1)).toNat default).2.2.2.1, (f.getD (((f.length : Int) - 1)).toNat default).2.2.2.2.1, (f.getD (((f.length : Int) - 1)).toNat default).2.2.2.2.2)) h) [0, 1, 2]
    ·obtain ⟨w_5', ho⟩ := hS
     cases ho
 ·obtain ⟨w_2', n, f, hc, ho⟩ := hS
  cases ho
theorem afp (b : Nat) (w1 : Value) (n : List ND) (w2 : Value) (s : List FR) (h : n.length ≤ 10000000 ∧ 0 < s.length ∧ s.length ≤ 10000) : c8 Tryd.prog 45 [.pointer (some ⟨b, 0, none⟩)] [] [stB b w1 w2, ndR w1 n, frR w2 s]
  (fun o => ∃ w n2 s2, ak2 n s n2 s2 ∧ o = .ret (.tuple #[]) [stB b w w2, ndR w n2, frR w2 s2]) := by
 obtain ⟨hn, hs, hs2⟩ := h
 refine (auo b w1 w2 n s (fun n2 s2 => ak2 n s n2 s2) ?_).weak ?_
 ·unfold ail
  refine ⟨⟨hn, hs, hs2⟩, ?_⟩
  rintro n1 s1 ⟨l1, l2, l3⟩
  obtain ⟨pre, f, rfl⟩ := abk (s := s1) (by omega)
  simp only [ae2, aat, aa9]
  have hpl : ∀ g : FR, pre.length < (pre ++ [g]).length := fun g => by simp
  refine ⟨by unfold I64; omega, by omega, fun l s2 => ∃ g : FR, s2 = pre ++ [g] ∧ l.length ≤ n.length + 4 ∧ ∀ a rest, y6 n s (a :: rest) → NOK n → NOK l ∧ y6 l pre rest ∧ FrR l (g.1, g.2.1, -1, g.2.2.2.1, g.2.2.2.2.1, g.2.2.2.2.2) a.close, ?_, ?_⟩
  ·rintro l s2 ⟨g, rfl, g1, g2⟩
   simp only [aat, aa9]
   refine ⟨hpl g, by simp only [List.length_append, List.length_cons, List.length_nil] at l1 ⊢; omega, by omega, fun a rest hr hk => ?_⟩
   obtain ⟨e1, e2, e3⟩ := g2 a rest hr hk
   exact ⟨y6.snoc.2 ⟨e3, e2⟩, e1⟩
  ·by_cases hw : f.2.1 < 0
   ·rw [if_pos (by simpa using hw)]
    refine ⟨_, rfl, by omega, fun a rest hr hk => ?_⟩
    obtain ⟨k1, k2⟩ := l3 a rest hr hk
    rw [y6.snoc] at k1
    obtain ⟨r1, r2, r3, r4, r5, r6⟩ := k1.1
    refine ⟨k2, k1.2, r1, ?_, rfl, r4, r5, r6⟩
    show IxR _ _ (some a.whole)
    have h0 : a.alt = none := (r2.neg hw).1
    unfold AF.whole aq2
    rw [h0]; exact r3
   ·rw [if_neg (by simpa using hw)]
    refine ⟨by omega, _, rfl, by simp; omega, fun a rest hr hk => ?_⟩
    obtain ⟨k1, k2⟩ := l3 a rest hr hk
    rw [y6.snoc] at k1
    obtain ⟨r1, r2, r3, r4, r5, r6⟩ := k1.1
    obtain ⟨z, e1, e2⟩ := r2.pos hw
    have e3 : Den n1 f.2.2.1 (ae8 a a.rowT) := r3
    have hd := ajo (op := 3) (by omega) e2 e3
    refine ⟨k2.snoc hd, ajj.more _ k1.2, r1, ?_, rfl, r4, r5.more _, r6.more _⟩
    show IxR _ _ (some a.whole)
    have h0 : a.alt = some z := e1
    unfold AF.whole aq2
    rw [h0]; exact hd
 ·rintro o (⟨w, n2, s2, hK, rfl⟩ | h)
  ·exact ⟨w, n2, s2, hK, rfl⟩
  ·exact h.elim
def alz (c : Int) (K : Bool → Prop) : Prop :=
 K ((((decide (c = 42)) || (decide (c = 43))) || (decide (c = 63))) || (decide (c = 123)))
theorem aq3  (c : Int) (K : Bool → Prop) (h : alz c K) :
  c8 Tryd.prog 43 [zU c] [] [] (fun o => (∃ (v : Bool), K v ∧ o = .ret (zB v) []) ∨ (False)) := by
 unfold alz at h
 refine c6 (n := 17) (L0 := [(0, zU c)]) Tryd.func43 rfl rfl rfl rfl (fun w0 M Q hE => ?_)
 refine a6 (fun _ hK => ?_)
 refine a4 ?_
 refine wa ?_
 refine WL.nil ?_
 refine kg (hK [(0, zU c)] _ ?_)
 refine a6 (fun _ hK_1' => ?_)
 refine a4 ?_
 refine wm ?_
 refine wv (OV.eql rfl rfl) ?_
 refine wm ?_
 refine WL.cut 3 [(0, zU c), (8, zB ((decide (c = 42)) || (decide (c = 43))))] ?_ (fun K0_2' hK_2' => ?_)
 rotate_left
 ·refine WL.split (decide (c = 42)) (fun hb => ?_) (fun hb => ?_)
  ·refine WL.set 5 rfl (congrArg zB hb) ?_
   refine wk ?_
   refine wk ?_
   refine wv (OV.pickT rfl rfl) ?_
   refine WL.set 8 rfl (oT (v := decide (c = 43)) hb) ?_
   exact WL.end_ (kg hK_2')
  ·refine WL.set 5 rfl (congrArg zB hb) ?_
   refine wm ?_
   refine wv (OV.eql rfl rfl) ?_
   refine wv (OV.pickF rfl rfl) ?_
   refine WL.set 8 rfl (oF (v := decide (c = 43)) hb) ?_
   exact WL.end_ (kg hK_2')
 refine wm ?_
 refine WL.cut 3 [(0, zU c), (12, zB (((decide (c = 42)) || (decide (c = 43))) || (decide (c = 63))))] ?_ (fun K0_3' hK_3' => ?_)
 rotate_left
 ·refine WL.split ((decide (c = 42)) || (decide (c = 43))) (fun hb => ?_) (fun hb => ?_)
  ·refine WL.set 9 rfl (congrArg zB hb) ?_
   refine wk ?_
   refine wk ?_
   refine wv (OV.pickT rfl rfl) ?_
   refine WL.set 12 rfl (oT (v := decide (c = 63)) hb) ?_
   exact WL.end_ (kg hK_3')
  ·refine WL.set 9 rfl (congrArg zB hb) ?_
   refine wm ?_
   refine wv (OV.eql rfl rfl) ?_
   refine wv (OV.pickF rfl rfl) ?_
   refine WL.set 12 rfl (oF (v := decide (c = 63)) hb) ?_
   exact WL.end_ (kg hK_3')
 refine wm ?_
 refine WL.cut 3 [(16, zB ((((decide (c = 42)) || (decide (c = 43))) || (decide (c = 63))) || (decide (c = 123))))] ?_ (fun K0_4' hK_4' => ?_)
 rotate_left
 ·refine WL.split (((decide (c = 42)) || (decide (c = 43))) || (decide (c = 63))) (fun hb => ?_) (fun hb => ?_)
  ·refine WL.set 13 rfl (congrArg zB hb) ?_
   refine wk ?_
   refine wk ?_
   refine wv (OV.pickT rfl rfl) ?_
   refine WL.set 16 rfl (oT (v := decide (c = 123)) hb) ?_
   exact WL.end_ (kg hK_4')
  ·refine WL.set 13 rfl (congrArg zB hb) ?_
   refine wm ?_
   refine wv (OV.eql rfl rfl) ?_
   refine wv (OV.pickF rfl rfl) ?_
   refine WL.set 16 rfl (oF (v := decide (c = 123)) hb) ?_
   exact WL.end_ (kg hK_4')
 refine wa ?_
 refine WL.nil ?_
 refine kg (hK_1' [(2, zB ((((decide (c = 42)) || (decide (c = 43))) || (decide (c = 63))) || (decide (c = 123))))] _ ?_)
 refine b9 ?_
 exact hE.ret [] rfl rfl (.inl ⟨_, h, rfl⟩) (d8.of1 rfl (RV.tmp rfl))
def ap0 (place : Int) (K : Int → Int → Int → Int → Int → Int → Prop) : Prop :=
 K place (-1) (-1) 0 (-1) (-1)
set_option maxHeartbeats 2000000 in
theorem awm  (place : Int) (K : Int → Int → Int → Int → Int → Int → Prop) (h : ap0 place K) :
  c8 Tryd.prog 42 [zI place] [] [] (fun o => (∃ (v_0 : Int) (v_1 : Int) (v_2 : Int) (v_3 : Int) (v_4 : Int) (v_5 : Int), K v_0 v_1 v_2 v_3 v_4 v_5 ∧ o = .ret (Value.agg [zI v_0, zI v_1, zI v_2, zU v_3, zI v_4, zI v_5].toArray) []) ∨ (False)) := by
 unfold ap0 at h
 refine c6 (n := 5) (L0 := [(0, zI place)]) Tryd.func42 rfl rfl rfl rfl (fun w0 M Q hE => ?_)
 refine a6 (fun _ hK => ?_)
 refine a4 ?_
 refine WL.make (MV.alloc ase) rfl rfl rfl (fun b => ?_)
 refine WL.nil ?_
 refine kg (hK [(0, zI place), (2, zP b)] _ ?_)
 refine a6 (fun _ hK_1' => ?_)
 refine a4 ?_
 refine wm ?_
 refine wv (OV.build rfl (cs := [zI place, zI (-1), zI (-1), zU 0, zI (-1), zI (-1)]) rfl) ?_
 refine WL.storeW (vs := [zI place, zI (-1), zI (-1), zU 0, zI (-1), zI (-1)]) 0 rfl rfl rfl rfl rfl as0 rfl rfl rfl ?_
 refine WL.nil ?_
 refine kg (hK_1' [(2, zP b)] _ ?_)
 refine b9 ?_
 exact hE.ret [] rfl rfl (.inl ⟨_, _, _, _, _, _, h, rfl⟩) (d8.of1 rfl (RV.row rfl (At.own 0 rfl) auv))
def apx (text : List UInt8) (i : Int) (K : Bool → Prop) : Prop :=
 ((decide (i < (text.length : Int))) = true → (0 ≤ i ∧ i < text.length)) ∧
 (((decide (i < (text.length : Int))) && (decide (48 ≤ ((text.getD i.toNat 0).toNat : Int)))) = true → (0 ≤ i ∧ i < text.length)) ∧
 K (((decide (i < (text.length : Int))) && (decide (48 ≤ ((text.getD i.toNat 0).toNat : Int)))) && (decide (((text.getD i.toNat 0).toNat : Int) ≤ 57)))
theorem axp  (text : List UInt8) (i : Int) (K : Bool → Prop) (h : apx text i K) :
  c8 Tryd.prog 80 [st text, zI i] [] [] (fun o => (∃ (v : Bool), K v ∧ o = .ret (zB v) []) ∨ (False)) := by
 unfold apx at h
 refine c6 (n := 21) (L0 := [(0, st text), (1, zI i)]) Tryd.func80 rfl rfl rfl rfl (fun w0 M Q hE => ?_)
 refine a6 (fun _ hK => ?_)
 refine a4 ?_
 refine wa ?_
 refine WL.nil ?_
 refine kg (hK [(0, st text), (1, zI i)] _ ?_)
 refine a6 (fun _ hK_1' => ?_)
 refine a4 ?_
 refine wm ?_
 refine wm ?_
 refine wv (OV.len rfl k9) ?_
 refine wv (OV.lss rfl rfl) ?_
 refine wm ?_
 obtain ⟨o_1', h⟩ := h
 refine WL.cut 5 [(0, st text), (1, zI i), (14, zB ((decide (i < (text.length : Int))) && (decide (48 ≤ ((text.getD i.toNat 0).toNat : Int)))))] ?_ (fun K0_2' hK_2' => ?_)
 rotate_left
 ·refine WL.split (decide (i < (text.length : Int))) (fun hb => ?_) (fun hb => ?_)
  ·have o := o_1' hb
   refine WL.set 9 rfl (congrArg zB hb) ?_
   refine wm ?_
   refine wm ?_
   refine wv (OV.index rfl rfl k9 o) ?_
   refine wv (OV.geq rfl rfl) ?_
   refine wv (OV.pickT rfl rfl) ?_
   refine WL.set 14 rfl (bT (v := decide (48 ≤ ((text.getD i.toNat 0).toNat : Int))) hb) ?_
   exact WL.end_ (kg hK_2')
  ·refine WL.set 9 rfl (congrArg zB hb) ?_
   refine wk ?_
   refine wk ?_
   refine wk ?_
   refine wk ?_
   refine wv (OV.pickF rfl rfl) ?_
   refine WL.set 14 rfl (bF (v := decide (48 ≤ ((text.getD i.toNat 0).toNat : Int))) hb) ?_
   exact WL.end_ (kg hK_2')
 refine wm ?_
 obtain ⟨o_3', h⟩ := h
 refine WL.cut 5 [(20, zB (((decide (i < (text.length : Int))) && (decide (48 ≤ ((text.getD i.toNat 0).toNat : Int)))) && (decide (((text.getD i.toNat 0).toNat : Int) ≤ 57))))] ?_ (fun K0_3' hK_3' => ?_)
 rotate_left
 ·refine WL.split ((decide (i < (text.length : Int))) && (decide (48 ≤ ((text.getD i.toNat 0).toNat : Int)))) (fun hb => ?_) (fun hb => ?_)
  ·have o_2' := o_3' hb
   refine WL.set 15 rfl (congrArg zB hb) ?_
   refine wm ?_
   refine wm ?_
   refine wv (OV.index rfl rfl k9 o_2') ?_
   refine wv (OV.leq rfl rfl) ?_
   refine wv (OV.pickT rfl rfl) ?_
   refine WL.set 20 rfl (bT (v := decide (((text.getD i.toNat 0).toNat : Int) ≤ 57)) hb) ?_
   exact WL.end_ (kg hK_3')
  ·refine WL.set 15 rfl (congrArg zB hb) ?_
   refine wk ?_
   refine wk ?_
   refine wk ?_
   refine wk ?_
   refine wv (OV.pickF rfl rfl) ?_
   refine WL.set 20 rfl (bF (v := decide (((text.getD i.toNat 0).toNat : Int) ≤ 57)) hb) ?_
   exact WL.end_ (kg hK_3')
 refine wa ?_
 refine WL.nil ?_
 refine kg (hK_1' [(4, zB (((decide (i < (text.length : Int))) && (decide (48 ≤ ((text.getD i.toNat 0).toNat : Int)))) && (decide (((text.getD i.toNat 0).toNat : Int) ≤ 57))))] _ ?_)
 refine b9 ?_
 exact hE.ret [] rfl rfl (.inl ⟨_, h, rfl⟩) (d8.of1 rfl (RV.tmp rfl))
def aj4 (op : Int) (K : Int → Prop) : Prop :=
 (if (decide (op = 3)) = true then
  K 0
 else
  ∃ (J0 : Bool → Prop),
   (∀ (t6 : Bool), J0 t6 →
    (if t6 = true then
     K 1
    else
     (if (decide (op = 2)) = true then
      K 2
     else
      (if (decide (op = 4)) = true then
       K 3
      else
       K 4)))) ∧
   (if (decide (op = 5)) = true then
    J0 (decide (op = 5))
   else
    J0 (decide (op = 6))))
theorem av5  (op : Int) (K : Int → Prop) (h : aj4 op K) :
  c8 Tryd.prog 129 [zI op] [] [] (fun o => (∃ (v : Int), K v ∧ o = .ret (zI v) []) ∨ (False)) := by
 unfold aj4 at h
 refine c6 (n := 13) (L0 := [(0, zI op)]) Tryd.func129 rfl rfl rfl rfl (fun w0 M Q hE => ?_)
 refine a6 (fun _ hK => ?_)
 refine a4 ?_
 refine wa ?_
 refine WL.nil ?_
 refine kg (hK [(0, zI op)] _ ?_)
 refine a6 (fun _ hK_1' => ?_)
 refine a6 (fun _ hK_2' => ?_)
 refine a4 ?_
 refine wm ?_
 refine WL.nil ?_
 refine kg (hK_2' [(3, zI op)] _ ?_)
 refine g8 ?_
 refine a6 (fun _ hK_3' => ?_)
 refine a4 ?_
 refine wv (OV.eql rfl rfl) ?_
 refine wa ?_
 refine WL.nil ?_
 refine kg (hK_3' [(3, zI op), (4, zB (decide (op = 3)))] _ ?_)
 refine b5 (b := decide (op = 3)) rfl (fun hb => ?_) (fun hb => ?_)
 ·replace h := j4 h hb
  refine a6 (fun _ hK_4' => ?_)
  refine a4 ?_
  refine wa ?_
  refine WL.nil ?_
  refine kg (hK_4' [(2, zI 0)] _ ?_)
  refine b9 ?_
  exact hE.ret [] rfl rfl (.inl ⟨_, h, rfl⟩) (d8.of1 rfl (RV.tmp rfl))
 ·replace h := i9 h hb
  obtain ⟨J0, hJ, h⟩ := h
  refine m7 (X := Bool) (fun σ => J0 σ) (fun σ => [(3, zI op), (6, zB σ)]) (fun σ => []) ?_ (fun K0_6' hK_6' => ?_)
  ·rintro t6 hj
   replace h := hJ t6 hj
   show WC _ _ _ _ [(3, zI op), (6, zB t6)] []
   refine b5 (b := t6) rfl (fun hb => ?_) (fun hb => ?_)
   ·replace h := j4 h hb
    refine a6 (fun _ hK_7' => ?_)
    refine a4 ?_
    refine wa ?_
    refine WL.nil ?_
    refine kg (hK_7' [(2, zI 1)] _ ?_)
    refine b9 ?_
    exact hE.ret [] rfl rfl (.inl ⟨_, h, rfl⟩) (d8.of1 rfl (RV.tmp rfl))
   ·replace h := i9 h hb
    refine a6 (fun _ hK_8' => ?_)
    refine a4 ?_
    refine wv (OV.eql rfl rfl) ?_
    refine wa ?_
    refine WL.nil ?_
    refine kg (hK_8' [(3, zI op), (9, zB (decide (op = 2)))] _ ?_)
    refine b5 (b := decide (op = 2)) rfl (fun hb => ?_) (fun hb => ?_)
    ·replace h := j4 h hb
     refine a6 (fun _ hK_9' => ?_)
     refine a4 ?_
     refine wa ?_
     refine WL.nil ?_
     refine kg (hK_9' [(2, zI 2)] _ ?_)
     refine b9 ?_
     exact hE.ret [] rfl rfl (.inl ⟨_, h, rfl⟩) (d8.of1 rfl (RV.tmp rfl))
    ·replace h := i9 h hb
     refine a6 (fun _ hK_10' => ?_)
     refine a4 ?_
     refine wv (OV.eql rfl rfl) ?_
     refine wa ?_
     refine WL.nil ?_
     refine kg (hK_10' [(11, zB (decide (op = 4)))] _ ?_)
     refine b5 (b := decide (op = 4)) rfl (fun hb => ?_) (fun hb => ?_)
     ·replace h := j4 h hb
      refine a6 (fun _ hK_11' => ?_)
      refine a4 ?_
      refine wa ?_
      refine WL.nil ?_
      refine kg (hK_11' [(2, zI 3)] _ ?_)
      refine b9 ?_
      exact hE.ret [] rfl rfl (.inl ⟨_, h, rfl⟩) (d8.of1 rfl (RV.tmp rfl))
     ·replace h := i9 h hb
      refine b7 ?_
      refine KX.go (hK_1' [] _ ?_) trivial
      refine a6 (fun _ hK_12' => ?_)
      refine a4 ?_
      refine wa ?_
      refine WL.nil ?_
      refine kg (hK_12' [(2, zI 4)] _ ?_)
      refine b9 ?_
      exact hE.ret [] rfl rfl (.inl ⟨_, h, rfl⟩) (d8.of1 rfl (RV.tmp rfl))
  ·skip
   refine a6 (fun _ hK_13' => ?_)
   refine a4 ?_
   refine wv (OV.eql rfl rfl) ?_
   refine wa ?_
   refine WL.nil ?_
   refine kg (hK_13' [(3, zI op), (6, zB (decide (op = 5)))] _ ?_)
   refine b5 (b := decide (op = 5)) rfl (fun hb => ?_) (fun hb => ?_)
   ·replace h := j4 h hb
    refine b7 ?_
    exact kh (hK_6' (decide (op = 5)) h) []
   ·replace h := i9 h hb
    refine a4 ?_
    refine wv (OV.eql rfl rfl) ?_
    refine wa ?_
    refine WL.nil ?_
    exact kh (hK_6' (decide (op = 6)) h) []
def aii (a : Int) (m : Int) (n : Int) (K : Int → Prop) : Prop :=
 (if (decide (m = (-2))) = true then
  (I64 (a + 1)) ∧
  (I64 ((a + 1) + a)) ∧
  (I64 (((a + 1) + a) + 1)) ∧
  K (((a + 1) + a) + 1)
 else
  (if ((decide (n < 0)) && (decide (m = 0))) = true then
   (I64 (a + 1)) ∧
   K (a + 1)
  else
   (if (decide (n < 0)) = true then
    (I64 (m * a)) ∧
    (I64 ((m * a) + m)) ∧
    (I64 (((m * a) + m) - 1)) ∧
    (I64 ((((m * a) + m) - 1) + 1)) ∧
    (I64 (((((m * a) + m) - 1) + 1) + a)) ∧
    (I64 ((((((m * a) + m) - 1) + 1) + a) + 1)) ∧
    K ((((((m * a) + m) - 1) + 1) + a) + 1)
   else
    (if (decide (n = 0)) = true then
     K 1
    else
     (if (decide (m = 0)) = true then
      (I64 (a + 2)) ∧
      (I64 (n * (a + 2))) ∧
      (I64 ((n * (a + 2)) + n)) ∧
      (I64 (((n * (a + 2)) + n) - 1)) ∧
      K (((n * (a + 2)) + n) - 1)
     else
      (I64 (m * a)) ∧
      (I64 ((m * a) + m)) ∧
      (I64 (((m * a) + m) - 1)) ∧
      (I64 (n - m)) ∧
      (I64 (a + 2)) ∧
      (I64 ((a + 2) + 1)) ∧
      (I64 ((n - m) * ((a + 2) + 1))) ∧
      (I64 ((((m * a) + m) - 1) + ((n - m) * ((a + 2) + 1)))) ∧
      K ((((m * a) + m) - 1) + ((n - m) * ((a + 2) + 1))))))))
theorem avt  (a : Int) (m : Int) (n : Int) (K : Int → Prop) (h : aii a m n K) :
  c8 Tryd.prog 83 [zI a, zI m, zI n] [] [] (fun o => (∃ (v : Int), K v ∧ o = .ret (zI v) []) ∨ (False)) := by
 unfold aii at h
 refine c6 (n := 59) (L0 := [(0, zI a), (1, zI m), (2, zI n)]) Tryd.func83 rfl rfl rfl rfl (fun w0 M Q hE => ?_)
 refine a6 (fun _ hK => ?_)
 refine a4 ?_
 refine wa ?_
 refine WL.nil ?_
 refine kg (hK [(0, zI a), (1, zI m), (2, zI n)] _ ?_)
 refine a6 (fun _ hK_1' => ?_)
 refine a6 (fun _ hK_2' => ?_)
 refine a4 ?_
 refine wm ?_
 refine wv (OV.eql rfl rfl) ?_
 refine WL.nil ?_
 refine kg (hK_2' [(0, zI a), (1, zI m), (2, zI n), (8, zB (decide (m = (-2))))] _ ?_)
 refine b5 (b := decide (m = (-2))) rfl (fun hb => ?_) (fun hb => ?_)
 ·replace h := j4 h hb
  refine a6 (fun _ hK_3' => ?_)
  refine a4 ?_
  refine wm ?_
  obtain ⟨o, h⟩ := h
  refine wv (OV.add rfl rfl o) ?_
  refine wm ?_
  obtain ⟨o_1', h⟩ := h
  refine wv (OV.add rfl rfl o_1') ?_
  obtain ⟨o_2', h⟩ := h
  refine wv (OV.add rfl rfl o_2') ?_
  refine wa ?_
  refine WL.nil ?_
  refine kg (hK_3' [(6, zI (((a + 1) + a) + 1))] _ ?_)
  refine b9 ?_
  exact hE.ret [] rfl rfl (.inl ⟨_, h, rfl⟩) (d8.of1 rfl (RV.tmp rfl))
 ·replace h := i9 h hb
  refine b7 ?_
  refine kg (hK_1' [(0, zI a), (1, zI m), (2, zI n)] _ ?_)
  refine a6 (fun _ hK_4' => ?_)
  refine a6 (fun _ hK_5' => ?_)
  refine a4 ?_
  refine wm ?_
  refine wv (OV.lss rfl rfl) ?_
  refine wm ?_
  refine WL.cut 3 [(0, zI a), (1, zI m), (2, zI n), (19, zB ((decide (n < 0)) && (decide (m = 0))))] ?_ (fun K0_6' hK_6' => ?_)
  rotate_left
  ·refine WL.split (decide (n < 0)) (fun hb => ?_) (fun hb => ?_)
   ·refine WL.set 16 rfl (congrArg zB hb) ?_
    refine wm ?_
    refine wv (OV.eql rfl rfl) ?_
    refine wv (OV.pickT rfl rfl) ?_
    refine WL.set 19 rfl (bT (v := decide (m = 0)) hb) ?_
    exact WL.end_ (kg hK_6')
   ·refine WL.set 16 rfl (congrArg zB hb) ?_
    refine wk ?_
    refine wk ?_
    refine wv (OV.pickF rfl rfl) ?_
    refine WL.set 19 rfl (bF (v := decide (m = 0)) hb) ?_
    exact WL.end_ (kg hK_6')
  refine WL.nil ?_
  refine kg (hK_5' [(0, zI a), (1, zI m), (2, zI n), (19, zB ((decide (n < 0)) && (decide (m = 0))))] _ ?_)
  refine b5 (b := (decide (n < 0)) && (decide (m = 0))) rfl (fun hb => ?_) (fun hb => ?_)
  ·replace h := j4 h hb
   refine a6 (fun _ hK_7' => ?_)
   refine a4 ?_
   refine wm ?_
   obtain ⟨o_4', h⟩ := h
   refine wv (OV.add rfl rfl o_4') ?_
   refine wa ?_
   refine WL.nil ?_
   refine kg (hK_7' [(6, zI (a + 1))] _ ?_)
   refine b9 ?_
   exact hE.ret [] rfl rfl (.inl ⟨_, h, rfl⟩) (d8.of1 rfl (RV.tmp rfl))
  ·replace h := i9 h hb
   refine b7 ?_
   refine kg (hK_4' [(0, zI a), (1, zI m), (2, zI n)] _ ?_)
   refine a6 (fun _ hK_8' => ?_)
   refine a6 (fun _ hK_9' => ?_)
   refine a4 ?_
   refine wm ?_
   refine wv (OV.lss rfl rfl) ?_
   refine WL.nil ?_
   refine kg (hK_9' [(0, zI a), (1, zI m), (2, zI n), (23, zB (decide (n < 0)))] _ ?_)
   refine b5 (b := decide (n < 0)) rfl (fun hb => ?_) (fun hb => ?_)
   ·replace h := j4 h hb
    refine a6 (fun _ hK_10' => ?_)
    refine a4 ?_
    refine wm ?_
    refine wm ?_
    obtain ⟨o_5', h⟩ := h
    refine wv (OV.mul rfl rfl o_5') ?_
    refine wm ?_
    obtain ⟨o_6', h⟩ := h
    refine wv (OV.add rfl rfl o_6') ?_
    obtain ⟨o_7', h⟩ := h
    refine wv (OV.sub rfl rfl o_7') ?_
    obtain ⟨o_8', h⟩ := h
    refine wv (OV.add rfl rfl o_8') ?_
    refine wm ?_
    obtain ⟨o_9', h⟩ := h
    refine wv (OV.add rfl rfl o_9') ?_
    obtain ⟨o_10', h⟩ := h
    refine wv (OV.add rfl rfl o_10') ?_
    refine wa ?_
    refine WL.nil ?_
    refine kg (hK_10' [(6, zI ((((((m * a) + m) - 1) + 1) + a) + 1))] _ ?_)
    refine b9 ?_
    exact hE.ret [] rfl rfl (.inl ⟨_, h, rfl⟩) (d8.of1 rfl (RV.tmp rfl))
   ·replace h := i9 h hb
    refine b7 ?_
    refine kg (hK_8' [(0, zI a), (1, zI m), (2, zI n)] _ ?_)
    refine a6 (fun _ hK_11' => ?_)
    refine a6 (fun _ hK_12' => ?_)
    refine a4 ?_
    refine wm ?_
    refine wv (OV.eql rfl rfl) ?_
    refine WL.nil ?_
    refine kg (hK_12' [(0, zI a), (1, zI m), (2, zI n), (35, zB (decide (n = 0)))] _ ?_)
    refine b5 (b := decide (n = 0)) rfl (fun hb => ?_) (fun hb => ?_)
    ·replace h := j4 h hb
     refine a6 (fun _ hK_13' => ?_)
     refine a4 ?_
     refine wa ?_
     refine WL.nil ?_
     refine kg (hK_13' [(6, zI 1)] _ ?_)
     refine b9 ?_
     exact hE.ret [] rfl rfl (.inl ⟨_, h, rfl⟩) (d8.of1 rfl (RV.tmp rfl))
    ·replace h := i9 h hb
     refine b7 ?_
     refine kg (hK_11' [(0, zI a), (1, zI m), (2, zI n)] _ ?_)
     refine a6 (fun _ hK_14' => ?_)
     refine a6 (fun _ hK_15' => ?_)
     refine a4 ?_
     refine wm ?_
     refine wv (OV.eql rfl rfl) ?_
     refine WL.nil ?_
     refine kg (hK_15' [(0, zI a), (1, zI m), (2, zI n), (37, zB (decide (m = 0)))] _ ?_)
     refine b5 (b := decide (m = 0)) rfl (fun hb => ?_) (fun hb => ?_)
     ·replace h := j4 h hb
      refine a6 (fun _ hK_16' => ?_)
      refine a4 ?_
      refine wm ?_
      refine wm ?_
      obtain ⟨o_11', h⟩ := h
      refine wv (OV.add rfl rfl o_11') ?_
      obtain ⟨o_12', h⟩ := h
      refine wv (OV.mul rfl rfl o_12') ?_
      refine wm ?_
      obtain ⟨o_13', h⟩ := h
      refine wv (OV.add rfl rfl o_13') ?_
      obtain ⟨o_14', h⟩ := h
      refine wv (OV.sub rfl rfl o_14') ?_
      refine wa ?_
      refine WL.nil ?_
      refine kg (hK_16' [(6, zI (((n * (a + 2)) + n) - 1))] _ ?_)
      refine b9 ?_
      exact hE.ret [] rfl rfl (.inl ⟨_, h, rfl⟩) (d8.of1 rfl (RV.tmp rfl))
     ·replace h := i9 h hb
      refine b7 ?_
      refine kg (hK_14' [(0, zI a), (1, zI m), (2, zI n)] _ ?_)
      refine a6 (fun _ hK_17' => ?_)
      refine a4 ?_
      refine wm ?_
      refine wm ?_
      obtain ⟨o_15', h⟩ := h
      refine wv (OV.mul rfl rfl o_15') ?_
      refine wm ?_
      obtain ⟨o_16', h⟩ := h
      refine wv (OV.add rfl rfl o_16') ?_
      obtain ⟨o_17', h⟩ := h
      refine wv (OV.sub rfl rfl o_17') ?_
      refine wm ?_
      refine wm ?_
      obtain ⟨o_18', h⟩ := h
      refine wv (OV.sub rfl rfl o_18') ?_
      refine wm ?_
      obtain ⟨o_19', h⟩ := h
      refine wv (OV.add rfl rfl o_19') ?_
      obtain ⟨o_20', h⟩ := h
      refine wv (OV.add rfl rfl o_20') ?_
      obtain ⟨o_21', h⟩ := h
      refine wv (OV.mul rfl rfl o_21') ?_
      obtain ⟨o_22', h⟩ := h
      refine wv (OV.add rfl rfl o_22') ?_
      refine wa ?_
      refine WL.nil ?_
      refine kg (hK_17' [(6, zI ((((m * a) + m) - 1) + ((n - m) * ((a + 2) + 1))))] _ ?_)
      refine b9 ?_
      exact hE.ret [] rfl rfl (.inl ⟨_, h, rfl⟩) (d8.of1 rfl (RV.tmp rfl))
def akv (c : Int) : Bool := (((decide (c = 42)) || (decide (c = 43))) || (decide (c = 63))) || (decide (c = 123))
theorem aof (c : Int) : c8 Tryd.prog 43 [.int .u8 c] [] [] (Ret (.bool (akv c)) []) := c8.one (aq3 c (fun v => v = akv c) rfl)
theorem ajy (p : Int) : c8 Tryd.prog 42 [.int .i64 p] [] [] (Ret (.agg [.int .i64 p, .int .i64 (-1), .int .i64 (-1), .int .u8 0, .int .i64 (-1), .int .i64 (-1)].toArray) []) := by
 refine (awm p (fun a b c d e f => a = p ∧ b = -1 ∧ c = -1 ∧ d = 0 ∧ e = -1 ∧ f = -1) ⟨rfl, rfl, rfl, rfl, rfl, rfl⟩).weak ?_
 rintro o (⟨a, b, c, d, e, f, ⟨rfl, rfl, rfl, rfl, rfl, rfl⟩, rfl⟩ | h)
 ·rfl
 ·exact h.elim
def abo (t : List UInt8) (i : Int) : Bool := ((decide (i < (t.length : Int))) && (decide (48 ≤ nx t i))) && (decide (nx t i ≤ 57))
theorem alr (t : List UInt8) (i : Int) (h : 0 ≤ i) : c8 Tryd.prog 80 [st t, .int .i64 i] [] [] (Ret (.bool (abo t i)) []) :=
 c8.one (axp t i (fun v => v = abo t i) ⟨fun h1 => ⟨h, by simpa using h1⟩, fun h1 => ⟨h, by simp at h1; omega⟩, rfl⟩)
def alc (op : Int) : Int := if op = 3 then 0 else if op = 5 ∨ op = 6 then 1 else if op = 2 then 2 else if op = 4 then 3 else 4
theorem asz (op : Int) : c8 Tryd.prog 129 [.int .i64 op] [] [] (Ret (.int .i64 (alc op)) []) :=
 c8.one (av5 op (fun v => v = alc op) (by
  unfold aj4 alc
  by_cases h3 : op = 3
  ·rw [if_pos (by simpa using h3), if_pos h3]
  rw [if_neg (by simpa using h3), if_neg h3]
  refine ⟨fun q => q = decide (op = 5 ∨ op = 6), ?_, ?_⟩
  ·rintro q rfl
   by_cases h5 : op = 5 ∨ op = 6
   ·rw [if_pos (by simpa using h5), if_pos h5]
   rw [if_neg (by simpa using h5), if_neg h5]
   by_cases h2 : op = 2
   ·rw [if_pos (by simpa using h2), if_pos h2]
   rw [if_neg (by simpa using h2), if_neg h2]
   by_cases h4 : op = 4
   ·rw [if_pos (by simpa using h4), if_pos h4]
   ·rw [if_neg (by simpa using h4), if_neg h4]
  ·by_cases h5 : op = 5 <;> by_cases h6 : op = 6 <;> first | omega | simp [h5, h6]))
def ab8 (a m n : Int) : Int := if m = -2 then ((a + 1) + a) + 1 else if n < 0 ∧ m = 0 then a + 1 else if n < 0 then (((((m * a) + m) - 1) + 1) + a) + 1 else if n = 0 then 1 else if m = 0 then ((n * (a + 2)) + n) - 1 else (((m * a) + m) - 1) + ((n - m) * ((a + 2) + 1))
def axi (a m n : Int) : Prop := 0 ≤ a ∧ a ≤ 2001 ∧ agu m n
theorem asj {x y X : Int} (h0 : 0 ≤ y) (h1 : -X ≤ x) (h2 : x ≤ X) : -(X * y) ≤ x * y ∧ x * y ≤ X * y := by
 have a1 := Int.mul_nonneg (show 0 ≤ x + X by omega) h0
 have a2 := Int.mul_nonneg (show 0 ≤ X - x by omega) h0
 rw [Int.add_mul] at a1
 rw [Int.sub_mul] at a2
 omega
theorem aqb (a m n : Int) (h : axi a m n) : c8 Tryd.prog 83 [.int .i64 a, .int .i64 m, .int .i64 n] [] [] (Ret (.int .i64 (ab8 a m n)) []) :=
 c8.one (avt a m n (fun v => v = ab8 a m n) (by
  obtain ⟨h0, h1, hb⟩ := h
  unfold agu at hb
  have e1 := asj (x := m) (y := a) (X := 300) h0 (by omega) (by omega)
  have e2 := asj (x := n) (y := a + 2) (X := 300) (by omega) (by omega) (by omega)
  have e3 := asj (x := n - m) (y := a + 2 + 1) (X := 300) (by omega) (by omega) (by omega)
  unfold aii ab8 I64
  by_cases c1 : m = -2
  ·rw [if_pos (by simpa using c1), if_pos c1]; exact ⟨by omega, by omega, by omega, rfl⟩
  rw [if_neg (by simpa using c1), if_neg c1]
  by_cases c2 : n < 0 ∧ m = 0
  ·rw [if_pos (by simpa using c2), if_pos c2]; exact ⟨by omega, rfl⟩
  rw [if_neg (by simpa using c2), if_neg c2]
  by_cases c3 : n < 0
  ·rw [if_pos (by simpa using c3), if_pos c3]; exact ⟨by omega, by omega, by omega, by omega, by omega, by omega, rfl⟩
  rw [if_neg (by simpa using c3), if_neg c3]
  by_cases c4 : n = 0
  ·rw [if_pos (by simpa using c4), if_pos c4]
  rw [if_neg (by simpa using c4), if_neg c4]
  by_cases c5 : m = 0
  ·rw [if_pos (by simpa using c5), if_pos c5]; exact ⟨by omega, by omega, by omega, by omega, rfl⟩
  ·rw [if_neg (by simpa using c5), if_neg c5]; exact ⟨by omega, by omega, by omega, by omega, by omega, by omega, by omega, by omega, rfl⟩))
theorem af8 (y : Tr) : ∀ (k : Nat) (x : Tr), (acw x y k).size = x.size + k * (1 + y.size)
 | 0, x => by simp [acw]
 | k + 1, x => by rw [acw, af8 y k, Tr.size, Nat.add_mul, Nat.one_mul]; omega
theorem ao3 {x : Tr} {m n : Int} (hb : agu m n) : ab8 x.size m n = ((aim x m n).size : Int) := by
 unfold agu at hb
 unfold ab8 aim
 by_cases c1 : m = -2
 ·rw [if_pos c1, if_pos c1]
  simp only [aae]
  rw [if_neg (by omega), if_neg (by omega), if_pos (by omega), if_neg (by omega)]
  simp only [acw, Tr.size, show ((1 : Int) - 1).toNat = 0 from rfl]
  omega
 rw [if_neg c1, if_neg c1]
 unfold aae
 by_cases c2 : n < 0 ∧ m = 0
 ·rw [if_pos c2, if_pos ⟨c2.2, c2.1⟩]; simp only [Tr.size]; omega
 rw [if_neg c2, if_neg (show ¬ (m = 0 ∧ n < 0) from fun h => c2 ⟨h.2, h.1⟩)]
 by_cases c3 : n < 0
 ·rw [if_pos c3, if_neg (show ¬ (m = 0 ∧ n = 0) by omega), if_pos c3, if_neg (show ¬ m = 0 by omega)]
  simp only [Tr.size, af8]
  obtain ⟨k, rfl⟩ : ∃ k : Nat, m = (k : Int) + 1 := ⟨(m - 1).toNat, by omega⟩
  rw [show ((k : Int) + 1 - 1).toNat = k by omega]
  push_cast
  rw [Int.add_mul, Int.mul_add]
  omega
 rw [if_neg c3]
 by_cases c4 : n = 0
 ·rw [if_pos c4, if_pos (show m = 0 ∧ n = 0 by omega)]; rfl
 rw [if_neg c4, if_neg (show ¬ (m = 0 ∧ n = 0) by omega), if_neg c3]
 by_cases c5 : m = 0
 ·rw [if_pos c5, if_pos c5]
  subst c5
  obtain ⟨k, rfl⟩ : ∃ k : Nat, n = (k : Int) + 1 := ⟨(n - 1).toNat, by omega⟩
  simp only [af8, Tr.size]
  rw [show ((0 : Int) - 1).toNat = 0 by omega, show ((k : Int) + 1 - max 0 1).toNat = k by omega]
  push_cast
  simp only [Int.add_mul, Int.mul_add]
  omega
 ·rw [if_neg c5, if_neg c5]
  obtain ⟨k, rfl⟩ : ∃ k : Nat, m = (k : Int) + 1 := ⟨(m - 1).toNat, by omega⟩
  obtain ⟨q, hq⟩ : ∃ q : Nat, n = (k : Int) + 1 + q := ⟨(n - (k + 1)).toNat, by omega⟩
  subst hq
  simp only [af8, Tr.size]
  rw [show ((k : Int) + 1 - 1).toNat = k by omega, show ((k : Int) + 1 + q - max ((k : Int) + 1) 1).toNat = q by omega, show (k : Int) + 1 + q - (k + 1) = q by omega]
  push_cast
  simp only [Int.add_mul, Int.mul_add]
  omega
theorem amo {a m n : Int} (h0 : 0 ≤ a) (hb : agu m n) (h : ¬ (m = 0 ∧ n = 0)) : a ≤ ab8 a m n := by
 unfold agu at hb
 unfold ab8
 by_cases c1 : m = -2
 ·rw [if_pos c1]; omega
 rw [if_neg c1]
 by_cases c2 : n < 0 ∧ m = 0
 ·rw [if_pos c2]; omega
 rw [if_neg c2]
 by_cases c3 : n < 0
 ·rw [if_pos c3]
  have := Int.mul_nonneg (show 0 ≤ m by omega) h0
  omega
 rw [if_neg c3, if_neg (by omega)]
 by_cases c5 : m = 0
 ·rw [if_pos c5]
  have := Int.mul_nonneg (show 0 ≤ n - 1 by omega) (show 0 ≤ a + 2 by omega)
  rw [Int.sub_mul] at this
  omega
 ·rw [if_neg c5]
  have h1 := Int.mul_nonneg (show 0 ≤ m - 1 by omega) h0
  have h2 := Int.mul_nonneg (show 0 ≤ n - m by omega) (show 0 ≤ a + 2 + 1 by omega)
  rw [Int.sub_mul] at h1
  omega
theorem aun {x : Tr} {m n : Int} (hb : agu m n) : min (ab8 (min (x.size : Int) 2001) m n) 2001 = min ((aim x m n).size : Int) 2001 := by
 rw [← ao3 hb]
 by_cases hs : (x.size : Int) ≤ 2001
 ·rw [Int.min_eq_left hs]
 ·rw [Int.min_eq_right (show (2001 : Int) ≤ x.size by omega)]
  by_cases hz : m = 0 ∧ n = 0
  ·obtain ⟨rfl, rfl⟩ := hz; simp [ab8]
  ·have h1 := amo (a := 2001) (by omega) hb hz
   have h2 := amo (a := (x.size : Int)) (by omega) hb hz
   omega
def abh (t : List UInt8) (from_ : Int) : Except (Int × Int) (Int × Int × Int) :=
 match ab6 t (from_ + 1) with
 | .error e => .error e
 | .ok (m, j) =>
  match ac0 t m j with
  | .error e => .error e
  | .ok (n, k) =>
   if k < t.length ∧ nx t k = 125 then (if m > 255 ∨ n > 255 ∨ (0 ≤ n ∧ n < m) then .error (22, from_) else .ok (m, n, k + 1)) else .error (20, k)
theorem amn (t : List UInt8) (x : Tr) (i : Int) : z7 t x i = match abh t i with
  | .error e => .error e
  | .ok (m, n, k) => .ok (aae x m n, k) := by
 unfold z7 abh
 cases ab6 t (i + 1) with
 | error e => rfl
 | ok p =>
  obtain ⟨m, j⟩ := p
  simp only
  cases ac0 t m j with
  | error e => rfl
  | ok q =>
   obtain ⟨n, k⟩ := q
   simp only
   split
   ·split <;> rfl
   ·rfl
theorem anx {t : List UInt8} {j m k : Int} (h : ab6 t j = .ok (m, k)) : 0 ≤ m := by
 unfold ab6 at h
 split at h
 ·cases h
 ·have key : ∀ (f : Nat) (n j : Int), 0 ≤ n → 0 ≤ (adu t f n j).1 := by
   intro f
   induction f with
   | zero => intro n j hn; exact hn
   | succ f ih =>
    intro n j hn
    unfold adu
    split
    ·rename_i hc
     have hd := hc.2
     simp only [aqq, Bool.and_eq_true, decide_eq_true_eq] at hd
     exact ih _ _ (by omega)
    ·exact hn
  have h2 : adu t 3 0 j = (m, k) := by injection h
  have := key 3 0 j (by omega)
  rw [h2] at this; exact this
theorem art {t : List UInt8} {i m n k : Int} (h : abh t i = .ok (m, n, k)) : agu m n := by
 unfold abh at h
 split at h
 ·cases h
 ·rename_i m' j hm
  have h1 := anx hm
  split at h
  ·cases h
  ·rename_i n' k' hc
   split at h
   ·split at h
    ·cases h
    ·rename_i hz
     simp only [Except.ok.injEq, Prod.mk.injEq] at h
     have h2 : -1 ≤ n' := by
      unfold ac0 at hc
      split at hc
      ·split at hc
       ·simp only [Except.ok.injEq, Prod.mk.injEq] at hc; omega
       ·have := anx hc; omega
      ·simp only [Except.ok.injEq, Prod.mk.injEq] at hc; omega
     unfold agu; omega
   ·cases h
def BrR (t : List UInt8) (i m n k e p : Int) : Prop := (e = 0 ∧ abh t i = .ok (m, n, k)) ∨ (0 < e ∧ abh t i = .error (e, p))
def ag8 (text : List UInt8) (from0 : Int) (K : Int → Int → Int → Int → Int → Prop) : Prop :=
 (I64 (from0 + 1)) ∧
 ∃ (J0 : Int → Int → (Nat → Int) → Prop),
  (∀ (i_8' : Int) (got_2' : Int) (v_8' : Nat → Int), J0 i_8' got_2' v_8' →
   ∃ (J0_1' : (Nat → Int) → Prop),
    (∀ (v_9' : Nat → Int), J0_1' v_9' →
     ((decide ((text.length : Int) ≤ i_8')) = false → (0 ≤ i_8' ∧ i_8' < text.length)) ∧
     (if ((decide ((text.length : Int) ≤ i_8')) || (!decide (((text.getD i_8'.toNat 0).toNat : Int) = 125))) = true then
      K 0 0 0 20 i_8'
     else
      (if (((decide (255 < v_9' 0)) || (decide (255 < v_9' 1))) || ((decide (0 ≤ v_9' 1)) && (decide (v_9' 1 < v_9' 0)))) = true then
       K 0 0 0 22 from0
      else
       (I64 (i_8' + 1)) ∧
       K (v_9' 0) (v_9' 1) (i_8' + 1) 0 0))) ∧
    (if (decide (got_2' = 1)) = true then
     J0_1' (fun j => if j = 1 then v_8' 0 else v_8' j)
    else
     J0_1' v_8')) ∧
  ∃ (Inv_6' : Int → Int → (Nat → Int) → Prop) (mu_6' : Int → Int → (Nat → Int) → Nat),
   Inv_6' (from0 + 1) 0 (fun _ => 0) ∧ ∀ (i_14' : Int) (got_4' : Int) (v_15' : Nat → Int), Inv_6' i_14' got_4' v_15' →
    (if (decide (got_4' < 2)) = true then
     (0 ≤ i_14') ∧
     (if (!(abo text i_14')) = true then
      K 0 0 0 20 i_14'
     else
      ∃ (Inv_7' : Int → Int → (Nat → Int) → Prop) (mu_7' : Int → Int → (Nat → Int) → Nat),
       Inv_7' i_14' 0 v_15' ∧ ∀ (i_16' : Int) (k_11' : Int) (v_17' : Nat → Int), Inv_7' i_16' k_11' v_17' →
        ((decide (k_11' < 3)) = true → (0 ≤ i_16')) ∧
        (if ((decide (k_11' < 3)) && (abo text i_16')) = true then
         (0 ≤ got_4' ∧ got_4' < 2) ∧
         (I64 (10 * (v_17' ((got_4').toNat)))) ∧
         (0 ≤ i_16' ∧ i_16' < text.length) ∧
         (I64 (IntKind.wrap .u8 (((text.getD i_16'.toNat 0).toNat : Int) - 48))) ∧
         (I64 ((10 * (v_17' ((got_4').toNat))) + (IntKind.wrap .u8 (((text.getD i_16'.toNat 0).toNat : Int) - 48)))) ∧
         (0 ≤ got_4' ∧ got_4' < 2) ∧
         (I64 (i_16' + 1)) ∧
         (I64 (k_11' + 1)) ∧
         Inv_7' (i_16' + 1) (k_11' + 1) (fun j => if j = (got_4').toNat then (10 * (v_17' ((got_4').toNat))) + (IntKind.wrap .u8 (((text.getD i_16'.toNat 0).toNat : Int) - 48)) else v_17' j) ∧ mu_7' (i_16' + 1) (k_11' + 1) (fun j => if j = (got_4').toNat then (10 * (v_17' ((got_4').toNat))) + (IntKind.wrap .u8 (((text.getD i_16'.toNat 0).toNat : Int) - 48)) else v_17' j) < mu_7' i_16' k_11' v_17'
        else
         (I64 (got_4' + 1)) ∧
         (((decide (got_4' + 1 = 2)) || (decide ((text.length : Int) ≤ i_16'))) = false → (0 ≤ i_16' ∧ i_16' < text.length)) ∧
         (if (((decide (got_4' + 1 = 2)) || (decide ((text.length : Int) ≤ i_16'))) || (!decide (((text.getD i_16'.toNat 0).toNat : Int) = 44))) = true then
          J0 i_16' (got_4' + 1) v_17'
         else
          (I64 (i_16' + 1)) ∧
          ((decide (i_16' + 1 < (text.length : Int))) = true → (0 ≤ (i_16' + 1) ∧ (i_16' + 1) < text.length)) ∧
          (if ((decide (i_16' + 1 < (text.length : Int))) && (decide (((text.getD (i_16' + 1).toNat 0).toNat : Int) = 125))) = true then
           Inv_6' (i_16' + 1) 2 (fun j => if j = 1 then (-1) else v_17' j) ∧ mu_6' (i_16' + 1) 2 (fun j => if j = 1 then (-1) else v_17' j) < mu_6' i_14' got_4' v_15'
          else
           Inv_6' (i_16' + 1) (got_4' + 1) v_17' ∧ mu_6' (i_16' + 1) (got_4' + 1) v_17' < mu_6' i_14' got_4' v_15'))))
    else
     J0 i_14' got_4' v_15')
theorem arj  (text : List UInt8) (from0 : Int) (K : Int → Int → Int → Int → Int → Prop) (h : ag8 text from0 K) :
  c8 Tryd.prog 44 [st text, zI from0] [] [] (fun o => (∃ (v_18' : Int) (v_19' : Int) (v_20' : Int) (v_21' : Int) (v_22' : Int), K v_18' v_19' v_20' v_21' v_22' ∧ o = .ret (Value.tuple #[zI v_18', zI v_19', zI v_20', zI v_21', zI v_22']) []) ∨ (False)) := by
 unfold ag8 at h
 refine c6 (n := 117) (L0 := [(0, st text), (1, zI from0)]) Tryd.func44 rfl rfl rfl rfl (fun w0 M Q hE => ?_)
 refine a6 (fun _ hK => ?_)
 refine a4 ?_
 refine wa ?_
 refine wa ?_
 refine wa ?_
 refine wa ?_
 refine wa ?_
 refine WL.nil ?_
 refine kg (hK [(0, st text), (1, zI from0)] _ ?_)
 refine a6 (fun _ hK_1' => ?_)
 refine a4 ?_
 refine wm ?_
 obtain ⟨o, h⟩ := h
 refine wv (OV.add rfl rfl o) ?_
 refine wa ?_
 refine WL.nil ?_
 refine kg (hK_1' [(0, st text), (1, zI from0), (9, zI (from0 + 1))] _ ?_)
 refine a6 (fun _ hK_2' => ?_)
 refine a4 ?_
 refine WL.make (MV.alloc anw) rfl rfl rfl (fun b => ?_)
 refine WL.nil ?_
 refine kg (hK_2' [(0, st text), (1, zI from0), (9, zI (from0 + 1)), (10, zP b)] _ ?_)
 refine a6 (fun _ hK_3' => ?_)
 refine a4 ?_
 refine wa ?_
 refine WL.nil ?_
 refine kg (hK_3' [(0, st text), (1, zI from0), (9, zI (from0 + 1)), (10, zP b), (11, zI 0)] _ ?_)
 obtain ⟨J0, hJ, h⟩ := h
 refine m7 (X := Int × Int × (Nat → Int)) (fun σ => J0 σ.1 σ.2.1 σ.2.2) (fun σ => [(0, st text), (1, zI from0), (9, zI σ.1), (10, zP b), (11, zI σ.2.1)]) (fun σ => [HA.blk b (.cells (arr 2 (fun j => zI (σ.2.2 j))).toArray 169 (0, 0))]) ?_ (fun K0_97' hK_97' => ?_)
 ·rintro ⟨i_8', got_2', v_8'⟩ hj
  replace h := hJ i_8' got_2' v_8' hj
  show WC _ _ _ _ [(0, st text), (1, zI from0), (9, zI i_8'), (10, zP b), (11, zI got_2')] [HA.blk b (.cells (arr 2 (fun j => zI (v_8' j))).toArray 169 (0, 0))]
  obtain ⟨J0_1', hJ_1', h⟩ := h
  refine m7 (X := (Nat → Int)) (fun σ => J0_1' σ) (fun σ => [(0, st text), (1, zI from0), (9, zI i_8'), (10, zP b)]) (fun σ => [HA.blk b (.cells (arr 2 (fun j => zI (σ j))).toArray 169 (0, 0))]) ?_ (fun K0_99' hK_99' => ?_)
  ·rintro v_9' hj
   replace h := hJ_1' v_9' hj
   show WC _ _ _ _ [(0, st text), (1, zI from0), (9, zI i_8'), (10, zP b)] [HA.blk b (.cells (arr 2 (fun j => zI (v_9' j))).toArray 169 (0, 0))]
   refine a6 (fun _ hK_100' => ?_)
   refine a6 (fun _ hK_101' => ?_)
   refine a4 ?_
   refine wm ?_
   refine wm ?_
   refine wv (OV.len rfl k9) ?_
   refine wv (OV.geq rfl rfl) ?_
   refine wm ?_
   obtain ⟨o_102', h⟩ := h
   refine WL.cut 5 [(1, zI from0), (9, zI i_8'), (10, zP b), (88, zB ((decide ((text.length : Int) ≤ i_8')) || (!decide (((text.getD i_8'.toNat 0).toNat : Int) = 125))))] ?_ (fun K0_102' hK_102' => ?_)
   rotate_left
   ·refine WL.split (decide ((text.length : Int) ≤ i_8')) (fun hb => ?_) (fun hb => ?_)
    ·refine WL.set 83 rfl (congrArg zB hb) ?_
     refine wk ?_
     refine wk ?_
     refine wk ?_
     refine wk ?_
     refine wv (OV.pickT rfl rfl) ?_
     refine WL.set 88 rfl (oT (v := !decide (((text.getD i_8'.toNat 0).toNat : Int) = 125)) hb) ?_
     exact WL.end_ (kg hK_102')
    ·have o_101' := o_102' hb
     refine WL.set 83 rfl (congrArg zB hb) ?_
     refine wm ?_
     refine wm ?_
     refine wv (OV.index rfl rfl k9 o_101') ?_
     refine wv (OV.neq rfl rfl) ?_
     refine wv (OV.pickF rfl rfl) ?_
     refine WL.set 88 rfl (oF (v := !decide (((text.getD i_8'.toNat 0).toNat : Int) = 125)) hb) ?_
     exact WL.end_ (kg hK_102')
   refine WL.nil ?_
   refine kg (hK_101' [(1, zI from0), (9, zI i_8'), (10, zP b), (88, zB ((decide ((text.length : Int) ≤ i_8')) || (!decide (((text.getD i_8'.toNat 0).toNat : Int) = 125))))] _ ?_)
   refine b5 (b := (decide ((text.length : Int) ≤ i_8')) || (!decide (((text.getD i_8'.toNat 0).toNat : Int) = 125))) rfl (fun hb => ?_) (fun hb => ?_)
   ·replace h := j4 h hb
    refine a6 (fun _ hK_103' => ?_)
    refine a4 ?_
    refine wm ?_
    refine wa ?_
    refine wa ?_
    refine wa ?_
    refine wa ?_
    refine wa ?_
    refine WL.nil ?_
    refine kg (hK_103' [(4, zI 0), (5, zI 0), (6, zI 0), (7, zI 20), (8, zI i_8')] _ ?_)
    refine b9 ?_
    exact hE.ret [] rfl rfl (.inl ⟨_, _, _, _, _, h, rfl⟩) (d8.of5 rfl (RV.tmp rfl) (RV.tmp rfl) (RV.tmp rfl) (RV.tmp rfl) (RV.tmp rfl))
   ·replace h := i9 h hb
    refine b7 ?_
    refine kg (hK_100' [(1, zI from0), (9, zI i_8'), (10, zP b)] _ ?_)
    refine a6 (fun _ hK_104' => ?_)
    refine a6 (fun _ hK_105' => ?_)
    refine a4 ?_
    refine wv (OV.indexAddr rfl rfl y4 (by decide) rfl) ?_
    refine wv (OV.load rfl (At.own 0 rfl) (acr (by decide)) a7) ?_
    refine wv (OV.gtr rfl rfl) ?_
    refine wm ?_
    refine WL.cut 4 [(1, zI from0), (9, zI i_8'), (10, zP b), (97, zB ((decide (255 < v_9' 0)) || (decide (255 < v_9' 1))))] ?_ (fun K0_106' hK_106' => ?_)
    rotate_left
    ·refine WL.split (decide (255 < v_9' 0)) (fun hb => ?_) (fun hb => ?_)
     ·refine WL.set 93 rfl (congrArg zB hb) ?_
      refine wk ?_
      refine wk ?_
      refine wk ?_
      refine wv (OV.pickT rfl rfl) ?_
      refine WL.set 97 rfl (oT (v := decide (255 < v_9' 1)) hb) ?_
      exact WL.end_ (kg hK_106')
     ·refine WL.set 93 rfl (congrArg zB hb) ?_
      refine wv (OV.indexAddr rfl rfl y4 (by decide) rfl) ?_
      refine wv (OV.load rfl (At.own 0 rfl) (acr (by decide)) a7) ?_
      refine wv (OV.gtr rfl rfl) ?_
      refine wv (OV.pickF rfl rfl) ?_
      refine WL.set 97 rfl (oF (v := decide (255 < v_9' 1)) hb) ?_
      exact WL.end_ (kg hK_106')
    refine wm ?_
    refine WL.cut 11 [(1, zI from0), (9, zI i_8'), (10, zP b), (109, zB (((decide (255 < v_9' 0)) || (decide (255 < v_9' 1))) || ((decide (0 ≤ v_9' 1)) && (decide (v_9' 1 < v_9' 0)))))] ?_ (fun K0_108' hK_108' => ?_)
    rotate_left
    ·refine WL.split ((decide (255 < v_9' 0)) || (decide (255 < v_9' 1))) (fun hb => ?_) (fun hb => ?_)
     ·refine WL.set 98 rfl (congrArg zB hb) ?_
      refine wk ?_
      refine wk ?_
      refine wk ?_
      refine wk ?_
      refine wk ?_
      refine wk ?_
      refine wk ?_
      refine wk ?_
      refine wk ?_
      refine wk ?_
      refine wv (OV.pickT rfl rfl) ?_
      refine WL.set 109 rfl (oT (v := (decide (0 ≤ v_9' 1)) && (decide (v_9' 1 < v_9' 0))) hb) ?_
      exact WL.end_ (kg hK_108')
     ·refine WL.set 98 rfl (congrArg zB hb) ?_
      refine wv (OV.indexAddr rfl rfl y4 (by decide) rfl) ?_
      refine wv (OV.load rfl (At.own 0 rfl) (acr (by decide)) a7) ?_
      refine wv (OV.geq rfl rfl) ?_
      refine wm ?_
      refine WL.cut 6 [(1, zI from0), (9, zI i_8'), (10, zP b), (98, zB false), (108, zB ((decide (0 ≤ v_9' 1)) && (decide (v_9' 1 < v_9' 0))))] ?_ (fun K0_107' hK_107' => ?_)
      rotate_left
      ·refine WL.split (decide (0 ≤ v_9' 1)) (fun hb => ?_) (fun hb => ?_)
       ·refine WL.set 102 rfl (congrArg zB hb) ?_
        refine wv (OV.indexAddr rfl rfl y4 (by decide) rfl) ?_
        refine wv (OV.load rfl (At.own 0 rfl) (acr (by decide)) a7) ?_
        refine wv (OV.indexAddr rfl rfl y4 (by decide) rfl) ?_
        refine wv (OV.load rfl (At.own 0 rfl) (acr (by decide)) a7) ?_
        refine wv (OV.lss rfl rfl) ?_
        refine wv (OV.pickT rfl rfl) ?_
        refine WL.set 108 rfl (bT (v := decide (v_9' 1 < v_9' 0)) hb) ?_
        exact WL.end_ (kg hK_107')
       ·refine WL.set 102 rfl (congrArg zB hb) ?_
        refine wk ?_
        refine wk ?_
        refine wk ?_
        refine wk ?_
        refine wk ?_
        refine wv (OV.pickF rfl rfl) ?_
        refine WL.set 108 rfl (bF (v := decide (v_9' 1 < v_9' 0)) hb) ?_
        exact WL.end_ (kg hK_107')
      refine wv (OV.pickF rfl rfl) ?_
      refine WL.set 109 rfl (oF (v := (decide (0 ≤ v_9' 1)) && (decide (v_9' 1 < v_9' 0))) hb) ?_
      exact WL.end_ (kg hK_108')
    refine WL.nil ?_
    refine kg (hK_105' [(1, zI from0), (9, zI i_8'), (10, zP b), (109, zB (((decide (255 < v_9' 0)) || (decide (255 < v_9' 1))) || ((decide (0 ≤ v_9' 1)) && (decide (v_9' 1 < v_9' 0)))))] _ ?_)
    refine b5 (b := ((decide (255 < v_9' 0)) || (decide (255 < v_9' 1))) || ((decide (0 ≤ v_9' 1)) && (decide (v_9' 1 < v_9' 0)))) rfl (fun hb => ?_) (fun hb => ?_)
    ·replace h := j4 h hb
     refine a6 (fun _ hK_109' => ?_)
     refine a4 ?_
     refine wm ?_
     refine wa ?_
     refine wa ?_
     refine wa ?_
     refine wa ?_
     refine wa ?_
     refine WL.nil ?_
     refine kg (hK_109' [(4, zI 0), (5, zI 0), (6, zI 0), (7, zI 22), (8, zI from0)] _ ?_)
     refine b9 ?_
     exact hE.ret [] rfl rfl (.inl ⟨_, _, _, _, _, h, rfl⟩) (d8.of5 rfl (RV.tmp rfl) (RV.tmp rfl) (RV.tmp rfl) (RV.tmp rfl) (RV.tmp rfl))
    ·replace h := i9 h hb
     refine b7 ?_
     refine kg (hK_104' [(9, zI i_8'), (10, zP b)] _ ?_)
     refine a6 (fun _ hK_110' => ?_)
     refine n9 8 [] f0 (by kernel_rfl) rfl (fun T_9' hT_9' => ?_)
     refine fv (fun _ => OV.indexAddr rfl rfl y4 (by decide) rfl) ?_
     refine fv (fun _ => OV.load rfl (At.own 0 rfl) (acr (by decide)) a7) ?_
     refine fv (fun _ => OV.indexAddr rfl rfl y4 (by decide) rfl) ?_
     refine fv (fun _ => OV.load rfl (At.own 0 rfl) (acr (by decide)) a7) ?_
     refine fv (fun _ => OV.move rfl) ?_
     obtain ⟨o_106', h⟩ := h
     refine fv (fun _ => OV.add rfl rfl o_106') ?_
     refine fv (fun _ => OV.assign rfl) ?_
     refine fv (fun _ => OV.assign rfl) ?_
     refine FL.weak (L' := fun γ => [(4, zI (v_9' 0)), (5, zI (v_9' 1)), (116, zI (i_8' + 1))]) (fun γ => ⟨rfl, rfl, rfl, trivial⟩) (FL.nil (hT_9' (fun γ => [(4, zI (v_9' 0)), (5, zI (v_9' 1)), (116, zI (i_8' + 1))]) (fun γ => ?_)))
     refine wa ?_
     refine wa ?_
     refine wa ?_
     refine WL.nil ?_
     refine kg (hK_110' [(4, zI (v_9' 0)), (5, zI (v_9' 1)), (6, zI (i_8' + 1)), (7, zI 0), (8, zI 0)] _ ?_)
     refine b9 ?_
     exact hE.ret [] rfl rfl (.inl ⟨_, _, _, _, _, h, rfl⟩) (d8.of5 rfl (RV.tmp rfl) (RV.tmp rfl) (RV.tmp rfl) (RV.tmp rfl) (RV.tmp rfl))
  ·skip
   refine a6 (fun _ hK_111' => ?_)
   refine a4 ?_
   refine wm ?_
   refine wv (OV.eql rfl rfl) ?_
   refine WL.nil ?_
   refine kg (hK_111' [(0, st text), (1, zI from0), (9, zI i_8'), (10, zP b), (75, zB (decide (got_2' = 1)))] _ ?_)
   refine b5 (b := decide (got_2' = 1)) rfl (fun hb => ?_) (fun hb => ?_)
   ·replace h := j4 h hb
    refine a4 ?_
    refine wv (OV.indexAddr rfl rfl y4 (by decide) rfl) ?_
    refine wv (OV.load rfl (At.own 0 rfl) (acr (by decide)) a7) ?_
    refine wv (OV.indexAddr rfl rfl y4 (by decide) rfl) ?_
    refine WL.storeA' (f' := fun j => zI (if j = 1 then v_8' 0 else v_8' j)) 0 rfl rfl rfl rfl g9 (by first | decide | omega) rfl rfl (fun j => by by_cases hj : j = 1 <;> simp [hj]) ?_
    refine WL.nil ?_
    exact kh (hK_99' (fun j => if j = 1 then v_8' 0 else v_8' j) h) [0]
   ·replace h := i9 h hb
    refine b7 ?_
    exact kh (hK_99' v_8' h) [0]
 ·skip
  refine g8 ?_
  obtain ⟨Inv_6', mu_6', h0_6', hr_6'⟩ := h
  refine aaj (S := Int × Int × (Nat → Int)) (fun σ => Inv_6' σ.1 σ.2.1 σ.2.2) (fun σ => mu_6' σ.1 σ.2.1 σ.2.2) (fun σ => [(0, st text), (1, zI from0), (9, zI σ.1), (10, zP b), (11, zI σ.2.1)]) (fun σ => [HA.blk b (.cells (arr 2 (fun j => zI (σ.2.2 j))).toArray 169 (0, 0))]) (from0 + 1, 0, fun _ => 0) h0_6' ⟨rfl, rfl, rfl, rfl, rfl, trivial⟩ rfl ?_
  rintro ⟨i_14', got_4', v_15'⟩ hi K0_173' hK_173'
  have h := hr_6' i_14' got_4' v_15' hi
  show WC _ _ _ _ [(0, st text), (1, zI from0), (9, zI i_14'), (10, zP b), (11, zI got_4')] [HA.blk b (.cells (arr 2 (fun j => zI (v_15' j))).toArray 169 (0, 0))]
  refine a6 (fun _ hK_174' => ?_)
  refine a6 (fun _ hK_175' => ?_)
  refine a4 ?_
  refine wm ?_
  refine wv (OV.lss rfl rfl) ?_
  refine WL.nil ?_
  refine kg (hK_175' [(0, st text), (1, zI from0), (9, zI i_14'), (10, zP b), (11, zI got_4'), (16, zB (decide (got_4' < 2)))] _ ?_)
  refine b5 (b := decide (got_4' < 2)) rfl (fun hb => ?_) (fun hb => ?_)
  ·replace h := j4 h hb
   refine b7 ?_
   refine kg (hK_174' [(0, st text), (1, zI from0), (9, zI i_14'), (10, zP b), (11, zI got_4')] _ ?_)
   refine g8 ?_
   refine a6 (fun _ hK_176' => ?_)
   refine a6 (fun _ hK_177' => ?_)
   refine a4 ?_
   refine wm ?_
   refine wm ?_
   obtain ⟨o_171', h⟩ := h
   refine WL.call (A := []) am2 rfl (alr text i_14' o_171') rfl trivial rfl rfl ?_
   refine wv (OV.not rfl) ?_
   refine WL.nil ?_
   refine kg (hK_177' [(0, st text), (1, zI from0), (9, zI i_14'), (10, zP b), (11, zI got_4'), (20, zB (!(abo text i_14')))] _ ?_)
   refine b5 (b := !(abo text i_14')) rfl (fun hb => ?_) (fun hb => ?_)
   ·replace h := j4 h hb
    refine a6 (fun _ hK_178' => ?_)
    refine a4 ?_
    refine wm ?_
    refine wa ?_
    refine wa ?_
    refine wa ?_
    refine wa ?_
    refine wa ?_
    refine WL.nil ?_
    refine kg (hK_178' [(4, zI 0), (5, zI 0), (6, zI 0), (7, zI 20), (8, zI i_14')] _ ?_)
    refine b9 ?_
    exact hE.ret [] rfl rfl (.inl ⟨_, _, _, _, _, h, rfl⟩) (d8.of5 rfl (RV.tmp rfl) (RV.tmp rfl) (RV.tmp rfl) (RV.tmp rfl) (RV.tmp rfl))
   ·replace h := i9 h hb
    refine b7 ?_
    refine kg (hK_176' [(0, st text), (1, zI from0), (9, zI i_14'), (10, zP b), (11, zI got_4')] _ ?_)
    refine a6 (fun _ hK_179' => ?_)
    refine a6 (fun _ hK_180' => ?_)
    refine a4 ?_
    refine wa ?_
    refine WL.nil ?_
    refine kg (hK_180' [(0, st text), (1, zI from0), (9, zI i_14'), (10, zP b), (11, zI got_4'), (12, zI 0)] _ ?_)
    refine g8 ?_
    obtain ⟨Inv_7', mu_7', h0_7', hr_7'⟩ := h
    refine aaj (S := Int × Int × (Nat → Int)) (fun σ => Inv_7' σ.1 σ.2.1 σ.2.2) (fun σ => mu_7' σ.1 σ.2.1 σ.2.2) (fun σ => [(0, st text), (1, zI from0), (9, zI σ.1), (10, zP b), (11, zI got_4'), (12, zI σ.2.1)]) (fun σ => [HA.blk b (.cells (arr 2 (fun j => zI (σ.2.2 j))).toArray 169 (0, 0))]) (i_14', 0, v_15') h0_7' ⟨rfl, rfl, rfl, rfl, rfl, rfl, trivial⟩ rfl ?_
    rintro ⟨i_16', k_11', v_17'⟩ hi K0_190' hK_190'
    have h := hr_7' i_16' k_11' v_17' hi
    show WC _ _ _ _ [(0, st text), (1, zI from0), (9, zI i_16'), (10, zP b), (11, zI got_4'), (12, zI k_11')] [HA.blk b (.cells (arr 2 (fun j => zI (v_17' j))).toArray 169 (0, 0))]
    refine a6 (fun _ hK_191' => ?_)
    refine a6 (fun _ hK_192' => ?_)
    refine a4 ?_
    refine wm ?_
    refine wv (OV.lss rfl rfl) ?_
    refine wm ?_
    obtain ⟨o_191', h⟩ := h
    refine WL.cut 4 [(0, st text), (1, zI from0), (9, zI i_16'), (10, zP b), (11, zI got_4'), (12, zI k_11'), (28, zB ((decide (k_11' < 3)) && (abo text i_16')))] ?_ (fun K0_193' hK_193' => ?_)
    rotate_left
    ·refine WL.split (decide (k_11' < 3)) (fun hb => ?_) (fun hb => ?_)
     ·have o_190' := o_191' hb
      refine WL.set 24 rfl (congrArg zB hb) ?_
      refine wm ?_
      refine wm ?_
      refine WL.call (A := []) am2 rfl (alr text i_16' o_190') rfl trivial rfl rfl ?_
      refine wv (OV.pickT rfl rfl) ?_
      refine WL.set 28 rfl (bT (v := abo text i_16') hb) ?_
      exact WL.end_ (kg hK_193')
     ·refine WL.set 24 rfl (congrArg zB hb) ?_
      refine wk ?_
      refine wk ?_
      refine wk ?_
      refine wv (OV.pickF rfl rfl) ?_
      refine WL.set 28 rfl (bF (v := abo text i_16') hb) ?_
      exact WL.end_ (kg hK_193')
    refine WL.nil ?_
    refine kg (hK_192' [(0, st text), (1, zI from0), (9, zI i_16'), (10, zP b), (11, zI got_4'), (12, zI k_11'), (28, zB ((decide (k_11' < 3)) && (abo text i_16')))] _ ?_)
    refine b5 (b := (decide (k_11' < 3)) && (abo text i_16')) rfl (fun hb => ?_) (fun hb => ?_)
    ·replace h := j4 h hb
     refine b7 ?_
     refine kg (hK_191' [(0, st text), (1, zI from0), (9, zI i_16'), (10, zP b), (11, zI got_4'), (12, zI k_11')] _ ?_)
     refine a6 (fun _ hK_194' => ?_)
     refine g8 ?_
     refine a6 (fun _ hK_195' => ?_)
     refine n9 11 [] f0 (by kernel_rfl) rfl (fun T_18' hT_18' => ?_)
     refine fv (fun _ => OV.move rfl) ?_
     refine fv (fun _ => OV.move rfl) ?_
     obtain ⟨o_192', h⟩ := h
     refine fv (fun _ => OV.indexAddr1 rfl rfl y4 o_192') ?_
     refine fv (fun _ => OV.load rfl (At.own 0 rfl) (acr (by first | omega | assumption)) a7) ?_
     obtain ⟨o_193', h⟩ := h
     refine fv (fun _ => OV.mul rfl rfl o_193') ?_
     refine fv (fun _ => OV.move rfl) ?_
     refine fv (fun _ => OV.move rfl) ?_
     obtain ⟨o_194', h⟩ := h
     refine fv (fun _ => OV.index rfl rfl k9 o_194') ?_
     refine fv (fun _ => OV.subW rfl rfl) ?_
     obtain ⟨o_195', h⟩ := h
     refine fv (fun _ => OV.conv64 rfl aci Tryd.underlying3 o_195') ?_
     obtain ⟨o_196', h⟩ := h
     refine fv (fun _ => OV.add rfl rfl o_196') ?_
     refine FL.weak (L' := fun γ => [(0, st text), (1, zI from0), (9, zI i_16'), (10, zP b), (11, zI got_4'), (12, zI k_11'), (31, zI got_4'), (41, zI ((10 * (v_17' ((got_4').toNat))) + (IntKind.wrap .u8 (((text.getD i_16'.toNat 0).toNat : Int) - 48))))]) (fun γ => ⟨rfl, rfl, rfl, rfl, rfl, rfl, rfl, rfl, trivial⟩) (FL.nil (hT_18' (fun γ => [(0, st text), (1, zI from0), (9, zI i_16'), (10, zP b), (11, zI got_4'), (12, zI k_11'), (31, zI got_4'), (41, zI ((10 * (v_17' ((got_4').toNat))) + (IntKind.wrap .u8 (((text.getD i_16'.toNat 0).toNat : Int) - 48))))]) (fun γ => ?_)))
     obtain ⟨o_197', h⟩ := h
     refine wv (OV.indexAddr1 rfl rfl y4 o_197') ?_
     refine WL.storeA' (f' := fun j => zI (if j = (got_4').toNat then (10 * (v_17' ((got_4').toNat))) + (IntKind.wrap .u8 (((text.getD i_16'.toNat 0).toNat : Int) - 48)) else v_17' j)) 0 rfl rfl rfl rfl g9 (by first | decide | omega) rfl rfl (fun j => by by_cases hj : j = (got_4').toNat <;> simp [hj]) ?_
     refine WL.nil ?_
     refine kg (hK_195' [(0, st text), (1, zI from0), (9, zI i_16'), (10, zP b), (11, zI got_4'), (12, zI k_11')] _ ?_)
     refine a4 ?_
     refine wm ?_
     obtain ⟨o_198', h⟩ := h
     refine wv (OV.add rfl rfl o_198') ?_
     refine wa ?_
     refine WL.nil ?_
     refine kg (hK_194' [(0, st text), (1, zI from0), (9, zI (i_16' + 1)), (10, zP b), (11, zI got_4'), (12, zI k_11')] _ ?_)
     refine a4 ?_
     refine wm ?_
     obtain ⟨o_199', h⟩ := h
     refine wv (OV.add rfl rfl o_199') ?_
     refine wa ?_
     refine WL.nil ?_
     exact kh (hK_190' (i_16' + 1, k_11' + 1, fun j => if j = (got_4').toNat then (10 * (v_17' ((got_4').toNat))) + (IntKind.wrap .u8 (((text.getD i_16'.toNat 0).toNat : Int) - 48)) else v_17' j) h.1 h.2) [0]
    ·replace h := i9 h hb
     refine t8 ?_
     refine kg (hK_179' [(0, st text), (1, zI from0), (9, zI i_16'), (10, zP b), (11, zI got_4')] _ ?_)
     refine a6 (fun _ hK_196' => ?_)
     refine a4 ?_
     refine wm ?_
     obtain ⟨o_200', h⟩ := h
     refine wv (OV.add rfl rfl o_200') ?_
     refine wa ?_
     refine WL.nil ?_
     refine kg (hK_196' [(0, st text), (1, zI from0), (9, zI i_16'), (10, zP b), (11, zI (got_4' + 1))] _ ?_)
     refine a6 (fun _ hK_197' => ?_)
     refine a6 (fun _ hK_198' => ?_)
     refine a4 ?_
     refine wm ?_
     refine wv (OV.eql rfl rfl) ?_
     refine wm ?_
     refine WL.cut 5 [(0, st text), (1, zI from0), (9, zI i_16'), (10, zP b), (11, zI (got_4' + 1)), (54, zB ((decide (got_4' + 1 = 2)) || (decide ((text.length : Int) ≤ i_16'))))] ?_ (fun K0_199' hK_199' => ?_)
     rotate_left
     ·refine WL.split (decide (got_4' + 1 = 2)) (fun hb => ?_) (fun hb => ?_)
      ·refine WL.set 49 rfl (congrArg zB hb) ?_
       refine wk ?_
       refine wk ?_
       refine wk ?_
       refine wk ?_
       refine wv (OV.pickT rfl rfl) ?_
       refine WL.set 54 rfl (oT (v := decide ((text.length : Int) ≤ i_16')) hb) ?_
       exact WL.end_ (kg hK_199')
      ·refine WL.set 49 rfl (congrArg zB hb) ?_
       refine wm ?_
       refine wm ?_
       refine wv (OV.len rfl k9) ?_
       refine wv (OV.geq rfl rfl) ?_
       refine wv (OV.pickF rfl rfl) ?_
       refine WL.set 54 rfl (oF (v := decide ((text.length : Int) ≤ i_16')) hb) ?_
       exact WL.end_ (kg hK_199')
     refine wm ?_
     obtain ⟨o_203', h⟩ := h
     refine WL.cut 5 [(0, st text), (1, zI from0), (9, zI i_16'), (10, zP b), (11, zI (got_4' + 1)), (60, zB (((decide (got_4' + 1 = 2)) || (decide ((text.length : Int) ≤ i_16'))) || (!decide (((text.getD i_16'.toNat 0).toNat : Int) = 44))))] ?_ (fun K0_200' hK_200' => ?_)
     rotate_left
     ·refine WL.split ((decide (got_4' + 1 = 2)) || (decide ((text.length : Int) ≤ i_16'))) (fun hb => ?_) (fun hb => ?_)
      ·refine WL.set 55 rfl (congrArg zB hb) ?_
       refine wk ?_
       refine wk ?_
       refine wk ?_
       refine wk ?_
       refine wv (OV.pickT rfl rfl) ?_
       refine WL.set 60 rfl (oT (v := !decide (((text.getD i_16'.toNat 0).toNat : Int) = 44)) hb) ?_
       exact WL.end_ (kg hK_200')
      ·have o_202' := o_203' hb
       refine WL.set 55 rfl (congrArg zB hb) ?_
       refine wm ?_
       refine wm ?_
       refine wv (OV.index rfl rfl k9 o_202') ?_
       refine wv (OV.neq rfl rfl) ?_
       refine wv (OV.pickF rfl rfl) ?_
       refine WL.set 60 rfl (oF (v := !decide (((text.getD i_16'.toNat 0).toNat : Int) = 44)) hb) ?_
       exact WL.end_ (kg hK_200')
     refine WL.nil ?_
     refine kg (hK_198' [(0, st text), (1, zI from0), (9, zI i_16'), (10, zP b), (11, zI (got_4' + 1)), (60, zB (((decide (got_4' + 1 = 2)) || (decide ((text.length : Int) ≤ i_16'))) || (!decide (((text.getD i_16'.toNat 0).toNat : Int) = 44))))] _ ?_)
     refine b5 (b := ((decide (got_4' + 1 = 2)) || (decide ((text.length : Int) ≤ i_16'))) || (!decide (((text.getD i_16'.toNat 0).toNat : Int) = 44))) rfl (fun hb => ?_) (fun hb => ?_)
     ·replace h := j4 h hb
      refine t8 ?_
      exact kh (hK_97' (i_16', got_4' + 1, v_17') h) [0]
     ·replace h := i9 h hb
      refine b7 ?_
      refine kg (hK_197' [(0, st text), (1, zI from0), (9, zI i_16'), (10, zP b), (11, zI (got_4' + 1))] _ ?_)
      refine a6 (fun _ hK_201' => ?_)
      refine a4 ?_
      refine wm ?_
      obtain ⟨o_204', h⟩ := h
      refine wv (OV.add rfl rfl o_204') ?_
      refine wa ?_
      refine WL.nil ?_
      refine kg (hK_201' [(0, st text), (1, zI from0), (9, zI (i_16' + 1)), (10, zP b), (11, zI (got_4' + 1))] _ ?_)
      refine a6 (fun _ hK_202' => ?_)
      refine a4 ?_
      refine wm ?_
      refine wm ?_
      refine wv (OV.len rfl k9) ?_
      refine wv (OV.lss rfl rfl) ?_
      refine wm ?_
      obtain ⟨o_206', h⟩ := h
      refine WL.cut 5 [(0, st text), (1, zI from0), (9, zI (i_16' + 1)), (10, zP b), (11, zI (got_4' + 1)), (72, zB ((decide (i_16' + 1 < (text.length : Int))) && (decide (((text.getD (i_16' + 1).toNat 0).toNat : Int) = 125))))] ?_ (fun K0_203' hK_203' => ?_)
      rotate_left
      ·refine WL.split (decide (i_16' + 1 < (text.length : Int))) (fun hb => ?_) (fun hb => ?_)
       ·have o_205' := o_206' hb
        refine WL.set 67 rfl (congrArg zB hb) ?_
        refine wm ?_
        refine wm ?_
        refine wv (OV.index rfl rfl k9 o_205') ?_
        refine wv (OV.eql rfl rfl) ?_
        refine wv (OV.pickT rfl rfl) ?_
        refine WL.set 72 rfl (bT (v := decide (((text.getD (i_16' + 1).toNat 0).toNat : Int) = 125)) hb) ?_
        exact WL.end_ (kg hK_203')
       ·refine WL.set 67 rfl (congrArg zB hb) ?_
        refine wk ?_
        refine wk ?_
        refine wk ?_
        refine wk ?_
        refine wv (OV.pickF rfl rfl) ?_
        refine WL.set 72 rfl (bF (v := decide (((text.getD (i_16' + 1).toNat 0).toNat : Int) = 125)) hb) ?_
        exact WL.end_ (kg hK_203')
      refine WL.nil ?_
      refine kg (hK_202' [(0, st text), (1, zI from0), (9, zI (i_16' + 1)), (10, zP b), (11, zI (got_4' + 1)), (72, zB ((decide (i_16' + 1 < (text.length : Int))) && (decide (((text.getD (i_16' + 1).toNat 0).toNat : Int) = 125))))] _ ?_)
      refine b5 (b := (decide (i_16' + 1 < (text.length : Int))) && (decide (((text.getD (i_16' + 1).toNat 0).toNat : Int) = 125))) rfl (fun hb => ?_) (fun hb => ?_)
      ·replace h := j4 h hb
       refine a6 (fun _ hK_204' => ?_)
       refine a4 ?_
       refine wv (OV.indexAddr rfl rfl y4 (by decide) rfl) ?_
       refine WL.storeA' (f' := fun j => zI (if j = 1 then (-1) else v_17' j)) 0 rfl rfl rfl rfl g9 (by first | decide | omega) rfl rfl (fun j => by by_cases hj : j = 1 <;> simp [hj]) ?_
       refine WL.nil ?_
       refine kg (hK_204' [(0, st text), (1, zI from0), (9, zI (i_16' + 1)), (10, zP b)] _ ?_)
       refine a4 ?_
       refine wa ?_
       refine WL.nil ?_
       exact kh (hK_173' (i_16' + 1, 2, fun j => if j = 1 then (-1) else v_17' j) h.1 h.2) [0]
      ·replace h := i9 h hb
       refine b7 ?_
       exact kh (hK_173' (i_16' + 1, got_4' + 1, v_17') h.1 h.2) [0]
  ·replace h := i9 h hb
   refine t8 ?_
   exact kh (hK_97' (i_14', got_4', v_15') h) [0]
theorem anp (t : List UInt8) (i : Int) (h : 0 ≤ i ∧ i < (t.length : Int) ∧ t.length ≤ 1048576) : c8 Tryd.prog 44 [st t, .int .i64 i] [] []
  (fun o => ∃ m n k e p, BrR t i m n k e p ∧ o = .ret (.tuple #[.int .i64 m, .int .i64 n, .int .i64 k, .int .i64 e, .int .i64 p]) []) := by
 obtain ⟨h0, h1, h2⟩ := h
 refine (arj t i (fun m n k e p => BrR t i m n k e p) ?_).weak ?_
 ·unfold ag8
  refine ⟨by unfold I64; omega, fun q got v => got = 1 ∧ ab6 t (i + 1) = .ok (v 0, q) ∧ ac0 t (v 0) q = .ok (v 0, q) ∧ 0 ≤ q ∧ q ≤ t.length ∨ got = 2 ∧ ∃ j, ab6 t (i + 1) = .ok (v 0, j) ∧ ac0 t (v 0) j = .ok (v 1, q) ∧ 0 ≤ q ∧ q ≤ t.length, ?_,
   fun q got v => got = 0 ∧ q = i + 1 ∧ v 0 = 0 ∧ v 1 = 0 ∨ got = 1 ∧ v 1 = 0 ∧ (∃ j, ab6 t (i + 1) = .ok (v 0, j) ∧ j < t.length ∧ 0 ≤ j ∧ nx t j = 44 ∧ q = j + 1 ∧ ¬ (j + 1 < t.length ∧ nx t (j + 1) = 125)) ∨ got = 2 ∧ ∃ j, ab6 t (i + 1) = .ok (v 0, j) ∧ ac0 t (v 0) j = .ok (v 1, q) ∧ 0 ≤ q ∧ q ≤ t.length,
   fun _ got _ => (2 - got).toNat, .inl ⟨rfl, rfl, rfl, rfl⟩, ?_⟩
  ·rintro q got v hJ
   refine ⟨fun u => u 0 = v 0 ∧ 0 ≤ q ∧ q ≤ t.length ∧ ∃ j, ab6 t (i + 1) = .ok (v 0, j) ∧ ac0 t (v 0) j = .ok (u 1, q), ?_, ?_⟩
   ·rintro u ⟨u0, q0, q1, j, hm, hc⟩
    refine ⟨fun _ => ⟨q0, by simp_all⟩, ?_⟩
    by_cases hk : q < t.length ∧ nx t q = 125
    ·rw [if_neg (by simp only [Bool.or_eq_true, decide_eq_true_eq, Bool.not_eq_true', decide_eq_false_iff_not]; have := hk.2; unfold nx at this; omega)]
     rw [u0]
     by_cases hz : v 0 > 255 ∨ u 1 > 255 ∨ (0 ≤ u 1 ∧ u 1 < v 0)
     ·rw [if_pos (by simp; omega)]
      exact .inr ⟨by omega, by simp only [abh, hm, hc, if_pos hk, if_pos hz]⟩
     ·rw [if_neg (by simp; omega)]
      exact ⟨by unfold I64; omega, .inl ⟨rfl, by simp only [abh, hm, hc, if_pos hk, if_neg hz]⟩⟩
    ·rw [if_pos (by simp only [Bool.or_eq_true, decide_eq_true_eq, Bool.not_eq_true', decide_eq_false_iff_not]; unfold nx at hk; omega)]
     exact .inr ⟨by omega, by simp only [abh, hm, hc, if_neg hk]⟩
   ·rcases hJ with ⟨rfl, hm, hc, q0, q1⟩ | ⟨rfl, j, hm, hc, q0, q1⟩
    ·rw [if_pos (by simp)]
     exact ⟨by simp, q0, q1, q, hm, by simpa using hc⟩
    ·rw [if_neg (by simp)]
     exact ⟨rfl, q0, q1, j, hm, hc⟩
  ·rintro q got v hI
   by_cases hg : got < 2
   ·rw [if_pos (by simpa using hg)]
    have hq : 0 ≤ q ∧ q ≤ t.length ∧ 0 ≤ got ∧ v got.toNat = 0 := by
     rcases hI with ⟨rfl, rfl, h3, h4⟩ | ⟨rfl, h4, j, _, h5, h6, _, rfl, _⟩ | ⟨rfl, _⟩
     ·exact ⟨by omega, by omega, by omega, h3⟩
     ·exact ⟨by omega, by omega, by omega, h4⟩
     ·omega
    obtain ⟨q0, q1, g0, hv0⟩ := hq
    refine ⟨q0, ?_⟩
    by_cases hd : abo t q = true
    ·rw [if_neg (by simp [hd])]
     refine ⟨fun p k u => ∃ f : Nat, k = 3 - f ∧ f ≤ 3 ∧ p = q + k ∧ p ≤ t.length ∧ (∀ j, j ≠ got.toNat → u j = v j) ∧ 0 ≤ u got.toNat ∧ (k = 0 ∧ u got.toNat ≤ 0 ∨ k = 1 ∧ u got.toNat ≤ 9 ∨ k = 2 ∧ u got.toNat ≤ 99 ∨ k = 3 ∧ u got.toNat ≤ 999) ∧ adu t 3 0 q = adu t f (u got.toNat) p,
      fun _ k _ => (3 - k).toNat, ⟨3, by omega, by omega, by omega, q1, fun _ _ => rfl, by omega, by omega, by rw [hv0]⟩, ?_⟩
     rintro p k u ⟨f, k1, k2, k3, k4, k5, k6, k7, k8⟩
     have hb := awh t p
     refine ⟨fun _ => by omega, ?_⟩
     by_cases hc : k < 3 ∧ abo t p = true
     ·rw [if_pos (by simp [hc.1, hc.2])]
      have hdg := hc.2
      simp only [abo, Bool.and_eq_true, decide_eq_true_eq] at hdg
      have hw : IntKind.wrap .u8 (nx t p - 48) = nx t p - 48 := IntWalk.u8_in _ (by omega)
      have hw' : IntKind.wrap .u8 (((t.getD p.toNat 0).toNat : Int) - 48) = nx t p - 48 := hw
      rw [hw']
      refine ⟨⟨g0, hg⟩, by unfold I64; omega, ⟨by omega, hdg.1.1⟩, by unfold I64; omega, by unfold I64; omega, ⟨g0, hg⟩, by unfold I64; omega, by unfold I64; omega, ⟨f - 1, by omega, by omega, by omega, by omega, fun j hj => (if_neg hj).trans (k5 j hj), ?_, ?_, ?_⟩, by show (3 - (k + 1)).toNat < (3 - k).toNat; omega⟩
      ·rw [show (fun j => if j = got.toNat then 10 * u got.toNat + (nx t p - 48) else u j) got.toNat = 10 * u got.toNat + (nx t p - 48) from if_pos rfl]; omega
      ·rw [show (fun j => if j = got.toNat then 10 * u got.toNat + (nx t p - 48) else u j) got.toNat = 10 * u got.toNat + (nx t p - 48) from if_pos rfl]; omega
      ·rw [show (fun j => if j = got.toNat then 10 * u got.toNat + (nx t p - 48) else u j) got.toNat = 10 * u got.toNat + (nx t p - 48) from if_pos rfl, k8]
       obtain ⟨f', rfl⟩ : ∃ f', f = f' + 1 := ⟨f - 1, by omega⟩
       rw [adu, if_pos ⟨hdg.1.1, by simp [aqq]; omega⟩]; rfl
     ·rw [if_neg (by simp only [Bool.and_eq_true, decide_eq_true_eq]; exact hc)]
      have hN : adu t 3 0 q = (u got.toNat, p) := by
       rw [k8]
       cases f with
       | zero => rfl
       | succ f' =>
        rw [adu, if_neg (fun hn => hc ⟨by omega, by
         have := hn.2
         simp only [aqq, Bool.and_eq_true, decide_eq_true_eq] at this
         simp only [abo, Bool.and_eq_true, decide_eq_true_eq]
         exact ⟨⟨hn.1, this.1⟩, this.2⟩⟩)]
      have hne : ¬ p = q := fun e => hc ⟨by omega, by rw [e]; exact hd⟩
      have hM : ab6 t q = .ok (u got.toNat, p) := by unfold ab6; rw [hN, if_neg hne]
      refine ⟨by unfold I64; omega, fun hz => ⟨by omega, by simp at hz; omega⟩, ?_⟩
      rcases hI with ⟨rfl, rfl, h3, h4⟩ | ⟨rfl, h4, j, hj1, hj2, hj3, hj4, rfl, hj5⟩ | ⟨rfl, _⟩
      ·-- behind the first number
       have hu1 : u 1 = 0 := by rw [k5 1 (by decide)]; exact h4
       by_cases hcm : p < t.length ∧ nx t p = 44
       ·rw [if_neg (by simp only [Bool.or_eq_true, decide_eq_true_eq, Bool.not_eq_true', decide_eq_false_iff_not]; have := hcm.2; unfold nx at this; omega)]
        refine ⟨by unfold I64; omega, fun hz => ⟨by omega, by simpa using hz⟩, ?_⟩
        by_cases hcl : p + 1 < t.length ∧ nx t (p + 1) = 125
        ·rw [if_pos (by simp only [Bool.and_eq_true, decide_eq_true_eq]; exact hcl)]
         refine ⟨.inr (.inr ⟨rfl, p, by simpa using hM, ?_, by omega, by omega⟩), by show (2 - 2 : Int).toNat < (2 - 0 : Int).toNat; omega⟩
         simp only [ac0, if_pos hcm, if_pos hcl]; simp
        ·rw [if_neg (by simp only [Bool.and_eq_true, decide_eq_true_eq]; exact hcl)]
         exact ⟨.inr (.inl ⟨rfl, hu1, p, by simpa using hM, hcm.1, by omega, hcm.2, rfl, hcl⟩), by show (2 - (0 + 1) : Int).toNat < (2 - 0 : Int).toNat; omega⟩
       ·rw [if_pos (by simp only [Bool.or_eq_true, decide_eq_true_eq, Bool.not_eq_true', decide_eq_false_iff_not]; unfold nx at hcm; omega)]
        exact .inl ⟨rfl, by simpa using hM, by simp only [ac0, if_neg hcm], by omega, by omega⟩
      ·-- behind the second
       rw [if_pos (by simp)]
       have hu0 : u 0 = v 0 := k5 0 (by decide)
       refine .inr ⟨rfl, j, by rw [hu0]; exact hj1, ?_, by omega, by omega⟩
       simp only [ac0, if_pos (show j < t.length ∧ nx t j = 44 from ⟨hj2, hj4⟩), if_neg hj5]
       simpa using hM
      ·omega
    ·rw [if_pos (by simp [hd])]
     have hN : adu t 3 0 q = (0, q) := by
      rw [adu, if_neg (fun hn => hd (by
       have := hn.2
       simp only [aqq, Bool.and_eq_true, decide_eq_true_eq] at this
       simp only [abo, Bool.and_eq_true, decide_eq_true_eq]
       exact ⟨⟨hn.1, this.1⟩, this.2⟩))]
     have hM : ab6 t q = .error (20, q) := by unfold ab6; rw [hN]; simp
     refine .inr ⟨by omega, ?_⟩
     rcases hI with ⟨rfl, rfl, h3, h4⟩ | ⟨rfl, h4, j, hj1, hj2, hj3, hj4, rfl, hj5⟩ | ⟨rfl, _⟩
     ·simp only [abh, hM]
     ·simp only [abh, hj1, ac0, if_pos (show j < t.length ∧ nx t j = 44 from ⟨hj2, hj4⟩), if_neg hj5, hM]
     ·omega
   ·rw [if_neg (by simpa using hg)]
    rcases hI with ⟨rfl, _⟩ | ⟨rfl, _⟩ | hI
    ·omega
    ·omega
    ·exact .inr hI
 ·rintro o (⟨m, n, k, e, p, hK, rfl⟩ | h)
  ·exact ⟨m, n, k, e, p, hK, rfl⟩
  ·exact h.elim
end Go.Proofs.YtohnchdnkbadaaaDoor
