/-
  Merged: RfA.
-/
import Derived.Test.YtohnchdnkbadaaaDoorPl4
namespace Go.Proofs.YtohnchdnkbadaaaDoor
open Go Go.RowKit

theorem tf_field_91_0 : fieldOff Tryd.prog 91 0 = some 0 := by kernel_rfl
theorem tf_scal_31 : scalB Tryd.prog 31 = true := by kernel_rfl
theorem tf_sl_31 : slB Tryd.prog 31 102 261 = true := by kernel_rfl
theorem tf_zero_102 : zeroB Tryd.prog 102 = some (ndC ndZ) := by kernel_rfl
theorem tf_info_102 : infoB Tryd.prog 102 = some ((ndC ndZ), 261, 296) := by kernel_rfl
theorem tf_size_31 : sizeB Tryd.prog 31 1 = true := by kernel_rfl
theorem tf_field_91_1 : fieldOff Tryd.prog 91 1 = some 1 := by kernel_rfl
theorem tf_scal_89 : scalB Tryd.prog 89 = true := by kernel_rfl
theorem tf_sl_89 : slB Tryd.prog 89 93 6 = true := by kernel_rfl
theorem tf_field_93_5 : fieldOff Tryd.prog 93 5 = some 5 := by kernel_rfl
theorem tf_field_93_4 : fieldOff Tryd.prog 93 4 = some 4 := by kernel_rfl
theorem tf_ent_81 : entB Tryd.prog 81 = true := by kernel_rfl
theorem tf_ent_47 : entB Tryd.prog 47 = true := by kernel_rfl
theorem tf_field_93_2 : fieldOff Tryd.prog 93 2 = some 2 := by kernel_rfl
theorem tf_field_93_3 : fieldOff Tryd.prog 93 3 = some 3 := by kernel_rfl
theorem tf_ent_46 : entB Tryd.prog 46 = true := by kernel_rfl
theorem tf_field_93_1 : fieldOff Tryd.prog 93 1 = some 1 := by kernel_rfl
theorem tf_zero_93 : zeroB Tryd.prog 93 = some [zI 0, zI 0, zI 0, zU 0, zI 0, zI 0] := by kernel_rfl
theorem tf_size_93 : sizeB Tryd.prog 93 6 = true := by kernel_rfl
theorem tf_row_93 : RowT Tryd.prog 93 6 := ⟨by kernel_rfl, by kernel_rfl⟩
theorem tf_zero_169a : zeroB Tryd.prog 169 = some (arr 2 (fun j => zI ((fun _ => 0) j))) := by kernel_rfl
theorem tf_ent_80 : entB Tryd.prog 80 = true := by kernel_rfl
theorem tf_arr_169 : arrB Tryd.prog 169 3 2 1 = true := by kernel_rfl

def radd_vc (s_1 : Value) (sl : List ND) (op : Int) (a : Int) (b_1' : Int) (K : Int → Value → (List ND) → Prop) : Prop :=
 (((sl.length + 1) + (sl.length + 1) / 4 + 192) * 296 ≤ 281474976710656 ∧ sl.length + 1 ≤ 9223372036854775807) ∧
 (I64 (((sl ++ [(op, (fun _ => false), a, b_1', 0, 0)]).length : Int) - 1)) ∧
 K (((sl ++ [(op, (fun _ => false), a, b_1', 0, 0)]).length : Int) - 1) s_1 (sl ++ [(op, (fun _ => false), a, b_1', 0, 0)])
set_option maxRecDepth 100000 in
theorem radd_wp (b : Nat) (w : Value) (s_1 : Value) (sl : List ND) (op : Int) (a : Int) (b_1' : Int) (K : Int → Value → (List ND) → Prop) (h : radd_vc s_1 sl op a b_1' K) :
  Does Tryd.prog 81 [zP b, zI op, zI a, zI b_1'] [] [HA.blk b (.cells [w, s_1].toArray 91 (0, 0)), HA.row w 102 261 sl.length (sl.flatMap ndC)] (fun o => (∃ (v : Int) (d_1' : Value) (w_2' : Value) (d : List ND), K v d_1' d ∧ o = .ret (zI v) [HA.blk b (.cells [w_2', d_1'].toArray 91 (0, 0)), HA.row w_2' 102 261 d.length (d.flatMap ndC)]) ∨ (False)) := by
 unfold radd_vc at h
 refine does_of_wc (n := 28) (L0 := [(0, zP b), (1, zI op), (2, zI a), (3, zI b_1')]) Tryd.func81 rfl rfl rfl rfl (fun w0 M Q hE => ?_)
 refine wc_seq (fun K0 hK => ?_)
 refine wc_region ?_
 refine wv (OV.assign rfl) ?_
 refine WL.nil ?_
 refine KX.go (hK [(0, zP b), (1, zI op), (2, zI a), (3, zI b_1')] _ ?_) ⟨rfl, rfl, rfl, rfl, trivial⟩
 refine wc_seq (fun K0_1' hK_1' => ?_)
 refine wc_region ?_
 refine wv (OV.move rfl) ?_
 refine wv (OV.move rfl) ?_
 refine wv (OV.nilCheck rfl) ?_
 refine wv (OV.fieldAddr0 rfl tf_field_91_0) ?_
 refine wv (OV.load rfl (At.own 0 rfl) rfl tf_scal_31) ?_
 refine wv (OV.move rfl) ?_
 refine wv (OV.move rfl) ?_
 refine wv (OV.move rfl) ?_
 refine wv (OV.build rfl (cs := ndC (op, (fun _ => false), a, b_1', 0, 0)) (by kernel_rfl)) ?_
 refine WL.make (MV.buildSlice1 (cs := ndC (op, (fun _ => false), a, b_1', 0, 0)) rfl rfl tf_sl_31 tf_zero_102 (ndC_len _) (ndC_len _)) rfl rfl rfl (fun b_2' => ?_)
 obtain ⟨o, h⟩ := h
 refine WL.append (f := ndC) (ms := [(op, (fun _ => false), a, b_1', 0, 0)]) 2 0 rfl rfl rfl rfl (flat_one _ _) rfl ndC_len (by decide) (ndC_one (op, (fun _ => false), a, b_1', 0, 0)) tf_sl_31 tf_info_102 rfl o rfl rfl (fun w_1' => ?_)
 refine wv (OV.nilCheck rfl) ?_
 refine wv (OV.fieldAddr0 rfl tf_field_91_0) ?_
 refine WL.storeSl (cs' := [w_1', s_1]) 1 2 rfl rfl rfl rfl tf_size_31 (Nat.le_of_ble_eq_true rfl) rfl rfl ?_
 refine WL.nil ?_
 refine KX.go (hK_1' [(0, zP b)] _ ?_) ⟨rfl, trivial⟩
 refine wc_seq (fun K0_2' hK_2' => ?_)
 refine wc_region ?_
 refine wv (OV.move rfl) ?_
 refine wv (OV.nilCheck rfl) ?_
 refine wv (OV.fieldAddr0 rfl tf_field_91_0) ?_
 refine wv (OV.load rfl (At.own 1 rfl) rfl tf_scal_31) ?_
 refine wv (OV.lenRow 2 rfl rfl tf_sl_31) ?_
 obtain ⟨o_1', h⟩ := h
 refine wv (OV.sub rfl rfl o_1') ?_
 refine wv (OV.assign rfl) ?_
 refine WL.nil ?_
 refine KX.go (hK_2' [(8, zI (((sl ++ [(op, (fun _ => false), a, b_1', 0, 0)]).length : Int) - 1))] _ ?_) ⟨rfl, trivial⟩
 refine wc_ret ?_
 exact hE.ret [1, 2] rfl rfl (.inl ⟨_, _, _, _, h, rfl⟩) (ResV.of1 rfl (RV.tmp rfl))

abbrev stB (b : Nat) (w1 w2 : Value) : HA := .blk b (.cells [w1, w2].toArray 91 (0, 0))
abbrev ndR (w : Value) (n : List ND) : HA := .row w 102 261 n.length (n.flatMap ndC)
abbrev frR (w : Value) (s : List FR) : HA := .row w 93 6 s.length (s.flatMap frC)
theorem radd_does (b : Nat) (w1 : Value) (n : List ND) (w2 : Value) (op a c : Int) (h : n.length ≤ 100000000) : Does Tryd.prog 81 [.pointer (some ⟨b, 0, none⟩), .int .i64 op, .int .i64 a, .int .i64 c] [] [stB b w1 w2, ndR w1 n]
  (fun o => ∃ w, o = .ret (.int .i64 (n.length : Int)) [stB b w w2, ndR w (n ++ [(op, fun _ => false, a, c, 0, 0)])]) := by
 refine (radd_wp b w1 w2 n op a c (fun v x l => v = (n.length : Int) ∧ x = w2 ∧ l = n ++ [(op, fun _ => false, a, c, 0, 0)]) ?_).weak ?_
 ·unfold radd_vc
  have hl : (n ++ [(op, fun _ => false, a, c, 0, 0)]).length = n.length + 1 := by simp
  rw [hl]
  exact ⟨by omega, by unfold I64; omega, by omega, rfl, rfl⟩
 ·rintro o (⟨v, x, w, l, ⟨rfl, rfl, rfl⟩, rfl⟩ | h)
  ·exact ⟨w, rfl⟩
  ·exact h.elim
def SettleR (n : List ND) (s : List FR) (n2 : List ND) (s2 : List FR) : Prop := s2.length = s.length ∧ n2.length ≤ n.length + 1 ∧ ∀ a rest, SRel n s (a :: rest) → NOK n → SRel n2 s2 (a.settle :: rest) ∧ NOK n2
def FoldR (n : List ND) (s : List FR) (n2 : List ND) (s2 : List FR) : Prop := s2.length = s.length ∧ n2.length ≤ n.length + 3 ∧ ∀ a rest, SRel n s (a :: rest) → NOK n → SRel n2 s2 (a.fold :: rest) ∧ NOK n2
def CloseR (n : List ND) (s : List FR) (n2 : List ND) (s2 : List FR) : Prop := s2.length = s.length ∧ n2.length ≤ n.length + 4 ∧ ∀ a rest, SRel n s (a :: rest) → NOK n → SRel n2 s2 (a.close :: rest) ∧ NOK n2

def rsettle_vc (sl : List ND) (sl_1' : List FR) (K : (List ND) → (List FR) → Prop) : Prop :=
 (I64 ((sl_1'.length : Int) - 1)) ∧
 (0 ≤ ((sl_1'.length : Int) - 1) ∧ ((sl_1'.length : Int) - 1) < (sl_1'.length : Int)) ∧
 (if (decide ((sl_1'.getD (((sl_1'.length : Int) - 1)).toNat default).2.2.2.2.2 < 0)) = true then
  K sl sl_1'
 else
  ∃ (J0 : (List ND) → (List FR) → Prop),
   (∀ (l : List ND) (l_1' : List FR), J0 l l_1' →
    ((((sl_1'.length : Int) - 1)).toNat < l_1'.length) ∧
    K l (l_1'.set ((((sl_1'.length : Int) - 1)).toNat) ((l_1'.getD (((sl_1'.length : Int) - 1)).toNat default).1, (l_1'.getD (((sl_1'.length : Int) - 1)).toNat default).2.1, (l_1'.getD (((sl_1'.length : Int) - 1)).toNat default).2.2.1, (l_1'.getD (((sl_1'.length : Int) - 1)).toNat default).2.2.2.1, (l_1'.getD (((sl_1'.length : Int) - 1)).toNat default).2.2.2.2.1, (-1)))) ∧
   (if (decide ((sl_1'.getD (((sl_1'.length : Int) - 1)).toNat default).2.2.2.2.1 < 0)) = true then
    J0 sl (sl_1'.set ((((sl_1'.length : Int) - 1)).toNat) ((sl_1'.getD (((sl_1'.length : Int) - 1)).toNat default).1, (sl_1'.getD (((sl_1'.length : Int) - 1)).toNat default).2.1, (sl_1'.getD (((sl_1'.length : Int) - 1)).toNat default).2.2.1, (sl_1'.getD (((sl_1'.length : Int) - 1)).toNat default).2.2.2.1, (sl_1'.getD (((sl_1'.length : Int) - 1)).toNat default).2.2.2.2.2, (sl_1'.getD (((sl_1'.length : Int) - 1)).toNat default).2.2.2.2.2))
   else
    (sl.length ≤ 100000000) ∧
    (
     J0 (sl ++ [(2, fun _ => false, (sl_1'.getD (((sl_1'.length : Int) - 1)).toNat default).2.2.2.2.1, (sl_1'.getD (((sl_1'.length : Int) - 1)).toNat default).2.2.2.2.2, 0, 0)]) (sl_1'.set ((((sl_1'.length : Int) - 1)).toNat) ((sl_1'.getD (((sl_1'.length : Int) - 1)).toNat default).1, (sl_1'.getD (((sl_1'.length : Int) - 1)).toNat default).2.1, (sl_1'.getD (((sl_1'.length : Int) - 1)).toNat default).2.2.1, (sl_1'.getD (((sl_1'.length : Int) - 1)).toNat default).2.2.2.1, (sl.length : Int), (sl_1'.getD (((sl_1'.length : Int) - 1)).toNat default).2.2.2.2.2)))))
set_option maxRecDepth 100000 in
theorem rsettle_wp (b : Nat) (w : Value) (w_1' : Value) (sl : List ND) (sl_1' : List FR) (K : (List ND) → (List FR) → Prop) (h : rsettle_vc sl sl_1' K) :
  Does Tryd.prog 47 [zP b] [] [HA.blk b (.cells [w, w_1'].toArray 91 (0, 0)), HA.row w 102 261 sl.length (sl.flatMap ndC), HA.row w_1' 93 6 sl_1'.length (sl_1'.flatMap frC)] (fun o => (∃ (w_5' : Value) (d : List ND) (d_1' : List FR), K d d_1' ∧ o = .ret (Value.tuple #[]) [HA.blk b (.cells [w_5', w_1'].toArray 91 (0, 0)), HA.row w_5' 102 261 d.length (d.flatMap ndC), HA.row w_1' 93 6 d_1'.length (d_1'.flatMap frC)]) ∨ (False)) := by
 unfold rsettle_vc at h
 refine does_of_wc (n := 47) (L0 := [(0, zP b)]) Tryd.func47 rfl rfl rfl rfl (fun w0 M Q hE => ?_)
 refine wc_seq (fun K0 hK => ?_)
 refine wc_draw 10 [] tf_mixed (by kernel_rfl) rfl (fun T hT => ?_)
 refine FL.val (fun _ => OV.move rfl) rfl (fun _ => rfl) rfl rfl ?_
 refine FL.val (fun _ => OV.nilCheck rfl) rfl (fun _ => rfl) rfl rfl ?_
 refine FL.val (fun _ => OV.fieldAddr0 rfl tf_field_91_1) rfl (fun _ => rfl) rfl rfl ?_
 refine FL.val (fun _ => OV.load rfl (At.own 0 rfl) rfl tf_scal_89) rfl (fun _ => rfl) rfl rfl ?_
 refine FL.val (fun _ => OV.move rfl) rfl (fun _ => rfl) rfl rfl ?_
 refine FL.val (fun _ => OV.nilCheck rfl) rfl (fun _ => rfl) rfl rfl ?_
 refine FL.val (fun _ => OV.fieldAddr0 rfl tf_field_91_1) rfl (fun _ => rfl) rfl rfl ?_
 refine FL.val (fun _ => OV.load rfl (At.own 0 rfl) rfl tf_scal_89) rfl (fun _ => rfl) rfl rfl ?_
 refine FL.val (fun _ => OV.lenRow 2 rfl rfl tf_sl_89) rfl (fun _ => rfl) rfl rfl ?_
 obtain ⟨o, h⟩ := h
 refine FL.val (fun _ => OV.sub rfl rfl o) rfl (fun _ => rfl) rfl rfl ?_
 refine FL.weak (L' := fun γ => [(0, zP b), (6, w_1'), (12, zI ((sl_1'.length : Int) - 1))]) (fun γ => ⟨rfl, rfl, rfl, trivial⟩) (FL.nil (hT (fun γ => [(0, zP b), (6, w_1'), (12, zI ((sl_1'.length : Int) - 1))]) (fun γ => ?_)))
 obtain ⟨o_1', h⟩ := h
 refine wv (OV.indexRow 2 rfl rfl rfl tf_sl_89 o_1') ?_
 refine wv (OV.assign rfl) ?_
 refine WL.nil ?_
 refine KX.go (hK [(0, zP b), (2, Value.pointer (some ⟨(blkOf w_1'), (((sl_1'.length : Int) - 1)).toNat * 6, none⟩))] _ ?_) ⟨rfl, rfl, trivial⟩
 refine wc_seq (fun K0_1' hK_1' => ?_)
 refine wc_seq (fun K0_2' hK_2' => ?_)
 refine wc_region ?_
 refine wv (OV.move rfl) ?_
 refine wv (OV.nilCheck rfl) ?_
 refine wv (OV.fieldAddr rfl tf_field_93_5) ?_
 refine wv (OV.loadEF (f := frC) (o := 5) 2 rfl rfl frC_len (by omega) rfl tf_scal_3) ?_
 refine wv (OV.lss rfl rfl) ?_
 refine WL.nil ?_
 refine KX.go (hK_2' [(0, zP b), (2, Value.pointer (some ⟨(blkOf w_1'), (((sl_1'.length : Int) - 1)).toNat * 6, none⟩)), (18, zB (decide ((sl_1'.getD (((sl_1'.length : Int) - 1)).toNat default).2.2.2.2.2 < 0)))] _ ?_) ⟨rfl, rfl, rfl, trivial⟩
 refine wc_cond (b := decide ((sl_1'.getD (((sl_1'.length : Int) - 1)).toNat default).2.2.2.2.2 < 0)) rfl (fun hb => ?_) (fun hb => ?_)
 ·replace h := if_T h hb
  refine wc_ret ?_
  exact hE.ret [0, 1, 2] rfl rfl (.inl ⟨_, _, _, h, rfl⟩) (ResV.none rfl)
 ·replace h := if_F h hb
  refine wc_skip ?_
  refine KX.go (hK_1' [(0, zP b), (2, Value.pointer (some ⟨(blkOf w_1'), (((sl_1'.length : Int) - 1)).toNat * 6, none⟩))] _ ?_) ⟨rfl, rfl, trivial⟩
  obtain ⟨J0, hJ, h⟩ := h
  refine wc_seqJ (X := Value × (List ND) × (List FR)) (fun σ => J0 σ.2.1 σ.2.2) (fun σ => [(2, Value.pointer (some ⟨(blkOf w_1'), (((sl_1'.length : Int) - 1)).toNat * 6, none⟩))]) (fun σ => [HA.blk b (.cells [σ.1, w_1'].toArray 91 (0, 0)), HA.row σ.1 102 261 σ.2.1.length (σ.2.1.flatMap ndC), HA.row w_1' 93 6 σ.2.2.length (σ.2.2.flatMap frC)]) ?_ (fun K0_4' hK_4' => ?_)
  ·rintro ⟨w_3', l, l_1'⟩ hj
   replace h := hJ l l_1' hj
   show WC _ _ _ _ [(2, Value.pointer (some ⟨(blkOf w_1'), (((sl_1'.length : Int) - 1)).toNat * 6, none⟩))] [HA.blk b (.cells [w_3', w_1'].toArray 91 (0, 0)), HA.row w_3' 102 261 l.length (l.flatMap ndC), HA.row w_1' 93 6 l_1'.length (l_1'.flatMap frC)]
   refine wc_region ?_
   refine wv (OV.move rfl) ?_
   refine wv (OV.nilCheck rfl) ?_
   refine wv (OV.fieldAddr rfl tf_field_93_5) ?_
   obtain ⟨o_3', h⟩ := h
   refine WL.storeEF (f := frC) (o := 5) (z := ((l_1'.getD (((sl_1'.length : Int) - 1)).toNat default).1, (l_1'.getD (((sl_1'.length : Int) - 1)).toNat default).2.1, (l_1'.getD (((sl_1'.length : Int) - 1)).toNat default).2.2.1, (l_1'.getD (((sl_1'.length : Int) - 1)).toNat default).2.2.2.1, (l_1'.getD (((sl_1'.length : Int) - 1)).toNat default).2.2.2.2.1, (-1))) 2 rfl rfl rfl frC_len o_3' (by decide) rfl tf_size_3 rfl rfl rfl ?_
   refine WL.nil ?_
   exact hE.norm [0, 1, 2] rfl rfl (.inl ⟨_, _, _, h, rfl⟩) (ResV.none rfl)
  ·skip
   refine wc_seq (fun K0_5' hK_5' => ?_)
   refine wc_region ?_
   refine wv (OV.move rfl) ?_
   refine wv (OV.nilCheck rfl) ?_
   refine wv (OV.fieldAddr rfl tf_field_93_4) ?_
   refine wv (OV.loadEF (f := frC) (o := 4) 2 rfl rfl frC_len (by omega) rfl tf_scal_3) ?_
   refine wv (OV.lss rfl rfl) ?_
   refine WL.nil ?_
   refine KX.go (hK_5' [(0, zP b), (2, Value.pointer (some ⟨(blkOf w_1'), (((sl_1'.length : Int) - 1)).toNat * 6, none⟩)), (23, zB (decide ((sl_1'.getD (((sl_1'.length : Int) - 1)).toNat default).2.2.2.2.1 < 0)))] _ ?_) ⟨rfl, rfl, rfl, trivial⟩
   refine wc_cond (b := decide ((sl_1'.getD (((sl_1'.length : Int) - 1)).toNat default).2.2.2.2.1 < 0)) rfl (fun hb => ?_) (fun hb => ?_)
   ·replace h := if_T h hb
    refine wc_region ?_
    refine wv (OV.move rfl) ?_
    refine wv (OV.move rfl) ?_
    refine wv (OV.nilCheck rfl) ?_
    refine wv (OV.fieldAddr rfl tf_field_93_5) ?_
    refine wv (OV.loadEF (f := frC) (o := 5) 2 rfl rfl frC_len (by omega) rfl tf_scal_3) ?_
    refine wv (OV.nilCheck rfl) ?_
    refine wv (OV.fieldAddr rfl tf_field_93_4) ?_
    refine WL.storeEF (f := frC) (o := 4) (z := ((sl_1'.getD (((sl_1'.length : Int) - 1)).toNat default).1, (sl_1'.getD (((sl_1'.length : Int) - 1)).toNat default).2.1, (sl_1'.getD (((sl_1'.length : Int) - 1)).toNat default).2.2.1, (sl_1'.getD (((sl_1'.length : Int) - 1)).toNat default).2.2.2.1, (sl_1'.getD (((sl_1'.length : Int) - 1)).toNat default).2.2.2.2.2, (sl_1'.getD (((sl_1'.length : Int) - 1)).toNat default).2.2.2.2.2)) 2 rfl rfl rfl frC_len (by omega) (by decide) rfl tf_size_3 rfl rfl rfl ?_
    refine WL.nil ?_
    exact KX.goH (hK_4' (w, sl, sl_1'.set ((((sl_1'.length : Int) - 1)).toNat) ((sl_1'.getD (((sl_1'.length : Int) - 1)).toNat default).1, (sl_1'.getD (((sl_1'.length : Int) - 1)).toNat default).2.1, (sl_1'.getD (((sl_1'.length : Int) - 1)).toNat default).2.2.1, (sl_1'.getD (((sl_1'.length : Int) - 1)).toNat default).2.2.2.1, (sl_1'.getD (((sl_1'.length : Int) - 1)).toNat default).2.2.2.2.2, (sl_1'.getD (((sl_1'.length : Int) - 1)).toNat default).2.2.2.2.2)) h) ⟨rfl, trivial⟩ [0, 1, 2] rfl rfl
   ·replace h := if_F h hb
    refine wc_drawC 10 [2] [HA.row w_1' 93 6 sl_1'.length (sl_1'.flatMap frC)] rfl rfl tf_mixed (by kernel_rfl) (fun T_2' hT_2' => ?_)
    refine TW.val (OV.move rfl) rfl rfl rfl ?_
    refine TW.val (OV.move rfl) rfl rfl rfl ?_
    refine TW.val (OV.move rfl) rfl rfl rfl ?_
    refine TW.val (OV.nilCheck rfl) rfl rfl rfl ?_
    refine TW.val (OV.fieldAddr rfl tf_field_93_4) rfl rfl rfl ?_
    refine TW.val (OV.loadEF (f := frC) (o := 4) 0 rfl rfl frC_len (by omega) rfl tf_scal_3) rfl rfl rfl ?_
    refine TW.val (OV.move rfl) rfl rfl rfl ?_
    refine TW.val (OV.nilCheck rfl) rfl rfl rfl ?_
    refine TW.val (OV.fieldAddr rfl tf_field_93_5) rfl rfl rfl ?_
    refine TW.val (OV.loadEF (f := frC) (o := 5) 0 rfl rfl frC_len (by omega) rfl tf_scal_3) rfl rfl rfl ?_
    refine TW.nil (hT_2' _ ?_)
    obtain ⟨o_4', h⟩ := h
    refine WLX.callS [0] rfl (EN.fn tf_ent_81 rfl) rfl (radd_does b w sl w_1' 2 ((sl_1'.getD (((sl_1'.length : Int) - 1)).toNat default).2.2.2.2.1) ((sl_1'.getD (((sl_1'.length : Int) - 1)).toNat default).2.2.2.2.2) o_4') rfl rfl trivial rfl rfl (fun r H' hS => ?_) (fun c H' hS => ?_)
    ·obtain ⟨w_4', ho⟩ := hS
     cases ho
     refine WLX.op [2] rfl rfl (OpK.val (OV.nilCheck rfl) rfl rfl) rfl ?_
     refine WLX.op [2] rfl rfl (OpK.val (OV.fieldAddr rfl tf_field_93_4) rfl rfl) rfl ?_
     refine WLX.opZ (OpK.storeEF (f := frC) (o := 4) (z := ((sl_1'.getD (((sl_1'.length : Int) - 1)).toNat default).1, (sl_1'.getD (((sl_1'.length : Int) - 1)).toNat default).2.1, (sl_1'.getD (((sl_1'.length : Int) - 1)).toNat default).2.2.1, (sl_1'.getD (((sl_1'.length : Int) - 1)).toNat default).2.2.2.1, (sl.length : Int), (sl_1'.getD (((sl_1'.length : Int) - 1)).toNat default).2.2.2.2.2)) 2 rfl rfl rfl frC_len (by omega) (by decide) rfl tf_size_3 rfl rfl) rfl ?_
     refine WLX.nil ?_
     exact KX.goH (hK_4' (w_4', sl ++ [(2, fun _ => false, (sl_1'.getD (((sl_1'.length : Int) - 1)).toNat default).2.2.2.2.1, (sl_1'.getD (((sl_1'.length : Int) - 1)).toNat default).2.2.2.2.2, 0, 0)], sl_1'.set ((((sl_1'.length : Int) - 1)).toNat) ((sl_1'.getD (((sl_1'.length : Int) - 1)).toNat default).1, (sl_1'.getD (((sl_1'.length : Int) - 1)).toNat default).2.1, (sl_1'.getD (((sl_1'.length : Int) - 1)).toNat default).2.2.1, (sl_1'.getD (((sl_1'.length : Int) - 1)).toNat default).2.2.2.1, (sl.length : Int), (sl_1'.getD (((sl_1'.length : Int) - 1)).toNat default).2.2.2.2.2)) h) ⟨rfl, trivial⟩ [0, 1, 2] rfl rfl
    ·obtain ⟨w_4', ho⟩ := hS
     cases ho

theorem rsettle_does (b : Nat) (w1 : Value) (n : List ND) (w2 : Value) (s : List FR) (h : n.length ≤ 10000000 ∧ 0 < s.length ∧ s.length ≤ 10000) : Does Tryd.prog 47 [.pointer (some ⟨b, 0, none⟩)] [] [stB b w1 w2, ndR w1 n, frR w2 s]
  (fun o => ∃ w n2 s2, SettleR n s n2 s2 ∧ o = .ret (.tuple #[]) [stB b w w2, ndR w n2, frR w2 s2]) := by
 obtain ⟨hn, hs, hs2⟩ := h
 refine (rsettle_wp b w1 w2 n s (fun n2 s2 => SettleR n s n2 s2) ?_).weak ?_
 ·obtain ⟨pre, f, rfl⟩ := last_form hs
  unfold rsettle_vc
  simp only [last_ix, getD_last, set_last]
  have hl : (pre ++ [f]).length = pre.length + 1 := by simp
  ·refine ⟨by unfold I64; omega, by omega, ?_⟩
   by_cases hf : f.2.2.2.2.2 < 0
   ·rw [if_pos (by simpa using hf)]
    refine ⟨rfl, by omega, fun a rest hr hk => ⟨?_, hk⟩⟩
    rw [SRel.snoc] at hr ⊢
    obtain ⟨r1, r2, r3, r4, r5, r6⟩ := hr.1
    obtain ⟨e1, e2⟩ := r6.neg hf
    refine ⟨⟨r1, r2, r3, r4, ?_, ?_⟩, hr.2⟩
    ·show IxR n _ a.rowS
     unfold AF.rowS; rw [e1]; exact r5
    ·exact e2
   ·rw [if_neg (by simpa using hf)]
    refine ⟨fun l s2 => ∃ g : FR, s2 = pre ++ [g] ∧ l.length ≤ n.length + 1 ∧ ∀ a rest, SRel n (pre ++ [f]) (a :: rest) → NOK n → NOK l ∧ SRel l pre rest ∧ FrR l (g.1, g.2.1, g.2.2.1, g.2.2.2.1, g.2.2.2.2.1, -1) a.settle, ?_, ?_⟩
    ·rintro l s2 ⟨g, rfl, g1, g2⟩
     simp only [getD_last, set_last]
     refine ⟨by simp, by simp, by omega, fun a rest hr hk => ?_⟩
     obtain ⟨q1, q2, q3⟩ := g2 a rest hr hk
     exact ⟨SRel.snoc.2 ⟨q3, q2⟩, q1⟩
    ·by_cases hw : f.2.2.2.2.1 < 0
     ·rw [if_pos (by simpa using hw)]
      refine ⟨_, rfl, by omega, fun a rest hr hk => ?_⟩
      rw [SRel.snoc] at hr
      obtain ⟨r1, r2, r3, r4, r5, r6⟩ := hr.1
      obtain ⟨e1, _⟩ := r5.neg hw
      obtain ⟨y, e2, e3⟩ := r6.pos hf
      refine ⟨hk, hr.2, r1, r2, r3, r4, ?_, rfl⟩
      show IxR n _ a.rowS
      unfold AF.rowS; rw [e2, e1]; exact e3
     ·rw [if_neg (by simpa using hw)]
      refine ⟨by omega, _, rfl, by simp, fun a rest hr hk => ?_⟩
      rw [SRel.snoc] at hr
      obtain ⟨r1, r2, r3, r4, r5, r6⟩ := hr.1
      obtain ⟨x, e1, e0⟩ := r5.pos hw
      obtain ⟨y, e2, e3⟩ := r6.pos hf
      have hd := den_bin (op := 2) (.inl rfl) e0 e3
      refine ⟨hk.snoc hd, FRel.more _ hr.2, r1, r2.more _, r3.more _, r4, ?_, rfl⟩
      show IxR _ _ a.rowS
      unfold AF.rowS; rw [e2, e1]; exact hd
 ·rintro o (⟨w, n2, s2, hK, rfl⟩ | h)
  ·exact ⟨w, n2, s2, hK, rfl⟩
  ·exact h.elim

def rfold_vc (sl : List ND) (sl_1' : List FR) (K : (List ND) → (List FR) → Prop) : Prop :=
 (sl.length ≤ 10000000 ∧ 0 < sl_1'.length ∧ sl_1'.length ≤ 10000) ∧
 (∀ (n : List ND) (f : List FR), SettleR sl sl_1' n f →
  (I64 ((f.length : Int) - 1)) ∧
  (0 ≤ ((f.length : Int) - 1) ∧ ((f.length : Int) - 1) < (f.length : Int)) ∧
  ∃ (J0 : (List ND) → (List FR) → Prop),
   (∀ (l : List ND) (l_1' : List FR), J0 l l_1' →
    ∃ (J0_1' : (List ND) → (List FR) → Prop),
     (∀ (l_2' : List ND) (l_3' : List FR), J0_1' l_2' l_3' →
      ((((f.length : Int) - 1)).toNat < l_3'.length) ∧
      K l_2' (l_3'.set ((((f.length : Int) - 1)).toNat) ((l_3'.getD (((f.length : Int) - 1)).toNat default).1, (l_3'.getD (((f.length : Int) - 1)).toNat default).2.1, (l_3'.getD (((f.length : Int) - 1)).toNat default).2.2.1, (l_3'.getD (((f.length : Int) - 1)).toNat default).2.2.2.1, (-1), (l_3'.getD (((f.length : Int) - 1)).toNat default).2.2.2.2.2))) ∧
     ((((f.length : Int) - 1)).toNat < l_1'.length) ∧
     (if (decide ((l_1'.getD (((f.length : Int) - 1)).toNat default).2.2.1 < 0)) = true then
      ((((f.length : Int) - 1)).toNat < l_1'.length) ∧
      ((((f.length : Int) - 1)).toNat < l_1'.length) ∧
      J0_1' l (l_1'.set ((((f.length : Int) - 1)).toNat) ((l_1'.getD (((f.length : Int) - 1)).toNat default).1, (l_1'.getD (((f.length : Int) - 1)).toNat default).2.1, (l_1'.getD (((f.length : Int) - 1)).toNat default).2.2.2.2.1, (l_1'.getD (((f.length : Int) - 1)).toNat default).2.2.2.1, (l_1'.getD (((f.length : Int) - 1)).toNat default).2.2.2.2.1, (l_1'.getD (((f.length : Int) - 1)).toNat default).2.2.2.2.2))
     else
      ((((f.length : Int) - 1)).toNat < l_1'.length) ∧
      (if (decide ((l_1'.getD (((f.length : Int) - 1)).toNat default).2.2.2.1 = 38)) = true then
       ((((f.length : Int) - 1)).toNat < l_1'.length) ∧
       ((((f.length : Int) - 1)).toNat < l_1'.length) ∧
       (l.length ≤ 100000000) ∧
       (
        ((((f.length : Int) - 1)).toNat < l_1'.length) ∧
        J0_1' (l ++ [(5, fun _ => false, (l_1'.getD (((f.length : Int) - 1)).toNat default).2.2.1, (l_1'.getD (((f.length : Int) - 1)).toNat default).2.2.2.2.1, 0, 0)]) (l_1'.set ((((f.length : Int) - 1)).toNat) ((l_1'.getD (((f.length : Int) - 1)).toNat default).1, (l_1'.getD (((f.length : Int) - 1)).toNat default).2.1, (l.length : Int), (l_1'.getD (((f.length : Int) - 1)).toNat default).2.2.2.1, (l_1'.getD (((f.length : Int) - 1)).toNat default).2.2.2.2.1, (l_1'.getD (((f.length : Int) - 1)).toNat default).2.2.2.2.2)))
      else
       ((((f.length : Int) - 1)).toNat < l_1'.length) ∧
       ((((f.length : Int) - 1)).toNat < l_1'.length) ∧
       (l.length ≤ 100000000) ∧
       (
        ((((f.length : Int) - 1)).toNat < l_1'.length) ∧
        J0_1' (l ++ [(6, fun _ => false, (l_1'.getD (((f.length : Int) - 1)).toNat default).2.2.1, (l_1'.getD (((f.length : Int) - 1)).toNat default).2.2.2.2.1, 0, 0)]) (l_1'.set ((((f.length : Int) - 1)).toNat) ((l_1'.getD (((f.length : Int) - 1)).toNat default).1, (l_1'.getD (((f.length : Int) - 1)).toNat default).2.1, (l.length : Int), (l_1'.getD (((f.length : Int) - 1)).toNat default).2.2.2.1, (l_1'.getD (((f.length : Int) - 1)).toNat default).2.2.2.2.1, (l_1'.getD (((f.length : Int) - 1)).toNat default).2.2.2.2.2)))))) ∧
   (if (decide ((f.getD (((f.length : Int) - 1)).toNat default).2.2.2.2.1 < 0)) = true then
    (n.length ≤ 100000000) ∧
    (
     J0 (n ++ [(0, fun _ => false, 0, 0, 0, 0)]) (f.set ((((f.length : Int) - 1)).toNat) ((f.getD (((f.length : Int) - 1)).toNat default).1, (f.getD (((f.length : Int) - 1)).toNat default).2.1, (f.getD (((f.length : Int) - 1)).toNat default).2.2.1, (f.getD (((f.length : Int) - 1)).toNat default).2.2.2.1, (n.length : Int), (f.getD (((f.length : Int) - 1)).toNat default).2.2.2.2.2)))
   else
    J0 n f))
set_option maxRecDepth 100000 in
theorem rfold_wp (b : Nat) (w : Value) (w_1' : Value) (sl : List ND) (sl_1' : List FR) (K : (List ND) → (List FR) → Prop) (h : rfold_vc sl sl_1' K) :
  Does Tryd.prog 46 [zP b] [] [HA.blk b (.cells [w, w_1'].toArray 91 (0, 0)), HA.row w 102 261 sl.length (sl.flatMap ndC), HA.row w_1' 93 6 sl_1'.length (sl_1'.flatMap frC)] (fun o => (∃ (w_11' : Value) (d : List ND) (d_1' : List FR), K d d_1' ∧ o = .ret (Value.tuple #[]) [HA.blk b (.cells [w_11', w_1'].toArray 91 (0, 0)), HA.row w_11' 102 261 d.length (d.flatMap ndC), HA.row w_1' 93 6 d_1'.length (d_1'.flatMap frC)]) ∨ (False)) := by
 unfold rfold_vc at h
 refine does_of_wc (n := 72) (L0 := [(0, zP b)]) Tryd.func46 rfl rfl rfl rfl (fun w0 M Q hE => ?_)
 refine wc_seq (fun K0 hK => ?_)
 refine wc_region ?_
 refine wv (OV.move rfl) ?_
 obtain ⟨o, h⟩ := h
 refine WL.callS tf_ent_47 rfl (rsettle_does b w sl w_1' sl_1' o) rfl trivial rfl rfl (fun r H' hS => ?_) (fun c H' hS => ?_)
 ·obtain ⟨w_2', n, f, hc, ho⟩ := hS
  cases ho
  replace h := h n f hc
  refine WL.nil ?_
  refine KX.go (hK [(0, zP b)] _ ?_) ⟨rfl, trivial⟩
  refine wc_seq (fun K0_1' hK_1' => ?_)
  refine wc_draw 10 [] tf_mixed (by kernel_rfl) rfl (fun T hT => ?_)
  refine FL.val (fun _ => OV.move rfl) rfl (fun _ => rfl) rfl rfl ?_
  refine FL.val (fun _ => OV.nilCheck rfl) rfl (fun _ => rfl) rfl rfl ?_
  refine FL.val (fun _ => OV.fieldAddr0 rfl tf_field_91_1) rfl (fun _ => rfl) rfl rfl ?_
  refine FL.val (fun _ => OV.load rfl (At.own 0 rfl) rfl tf_scal_89) rfl (fun _ => rfl) rfl rfl ?_
  refine FL.val (fun _ => OV.move rfl) rfl (fun _ => rfl) rfl rfl ?_
  refine FL.val (fun _ => OV.nilCheck rfl) rfl (fun _ => rfl) rfl rfl ?_
  refine FL.val (fun _ => OV.fieldAddr0 rfl tf_field_91_1) rfl (fun _ => rfl) rfl rfl ?_
  refine FL.val (fun _ => OV.load rfl (At.own 0 rfl) rfl tf_scal_89) rfl (fun _ => rfl) rfl rfl ?_
  refine FL.val (fun _ => OV.lenRow 2 rfl rfl tf_sl_89) rfl (fun _ => rfl) rfl rfl ?_
  obtain ⟨o_1', h⟩ := h
  refine FL.val (fun _ => OV.sub rfl rfl o_1') rfl (fun _ => rfl) rfl rfl ?_
  refine FL.weak (L' := fun γ => [(0, zP b), (8, w_1'), (14, zI ((f.length : Int) - 1))]) (fun γ => ⟨rfl, rfl, rfl, trivial⟩) (FL.nil (hT (fun γ => [(0, zP b), (8, w_1'), (14, zI ((f.length : Int) - 1))]) (fun γ => ?_)))
  obtain ⟨o_2', h⟩ := h
  refine wv (OV.indexRow 2 rfl rfl rfl tf_sl_89 o_2') ?_
  refine wv (OV.assign rfl) ?_
  refine WL.nil ?_
  refine KX.go (hK_1' [(0, zP b), (2, Value.pointer (some ⟨(blkOf w_1'), (((f.length : Int) - 1)).toNat * 6, none⟩))] _ ?_) ⟨rfl, rfl, trivial⟩
  obtain ⟨J0, hJ, h⟩ := h
  refine wc_seqJ (X := Value × (List ND) × (List FR)) (fun σ => J0 σ.2.1 σ.2.2) (fun σ => [(0, zP b), (2, Value.pointer (some ⟨(blkOf w_1'), (((f.length : Int) - 1)).toNat * 6, none⟩))]) (fun σ => [HA.blk b (.cells [σ.1, w_1'].toArray 91 (0, 0)), HA.row σ.1 102 261 σ.2.1.length (σ.2.1.flatMap ndC), HA.row w_1' 93 6 σ.2.2.length (σ.2.2.flatMap frC)]) ?_ (fun K0_3' hK_3' => ?_)
  ·rintro ⟨w_4', l, l_1'⟩ hj
   replace h := hJ l l_1' hj
   show WC _ _ _ _ [(0, zP b), (2, Value.pointer (some ⟨(blkOf w_1'), (((f.length : Int) - 1)).toNat * 6, none⟩))] [HA.blk b (.cells [w_4', w_1'].toArray 91 (0, 0)), HA.row w_4' 102 261 l.length (l.flatMap ndC), HA.row w_1' 93 6 l_1'.length (l_1'.flatMap frC)]
   obtain ⟨J0_1', hJ_1', h⟩ := h
   refine wc_seqJ (X := Value × (List ND) × (List FR)) (fun σ => J0_1' σ.2.1 σ.2.2) (fun σ => [(2, Value.pointer (some ⟨(blkOf w_1'), (((f.length : Int) - 1)).toNat * 6, none⟩))]) (fun σ => [HA.blk b (.cells [σ.1, w_1'].toArray 91 (0, 0)), HA.row σ.1 102 261 σ.2.1.length (σ.2.1.flatMap ndC), HA.row w_1' 93 6 σ.2.2.length (σ.2.2.flatMap frC)]) ?_ (fun K0_6' hK_6' => ?_)
   ·rintro ⟨w_7', l_2', l_3'⟩ hj
    replace h := hJ_1' l_2' l_3' hj
    show WC _ _ _ _ [(2, Value.pointer (some ⟨(blkOf w_1'), (((f.length : Int) - 1)).toNat * 6, none⟩))] [HA.blk b (.cells [w_7', w_1'].toArray 91 (0, 0)), HA.row w_7' 102 261 l_2'.length (l_2'.flatMap ndC), HA.row w_1' 93 6 l_3'.length (l_3'.flatMap frC)]
    refine wc_region ?_
    refine wv (OV.move rfl) ?_
    refine wv (OV.nilCheck rfl) ?_
    refine wv (OV.fieldAddr rfl tf_field_93_4) ?_
    obtain ⟨o_16', h⟩ := h
    refine WL.storeEF (f := frC) (o := 4) (z := ((l_3'.getD (((f.length : Int) - 1)).toNat default).1, (l_3'.getD (((f.length : Int) - 1)).toNat default).2.1, (l_3'.getD (((f.length : Int) - 1)).toNat default).2.2.1, (l_3'.getD (((f.length : Int) - 1)).toNat default).2.2.2.1, (-1), (l_3'.getD (((f.length : Int) - 1)).toNat default).2.2.2.2.2)) 2 rfl rfl rfl frC_len o_16' (by decide) rfl tf_size_3 rfl rfl rfl ?_
    refine WL.nil ?_
    exact hE.norm [0, 1, 2] rfl rfl (.inl ⟨_, _, _, h, rfl⟩) (ResV.none rfl)
   ·skip
    refine wc_seq (fun K0_7' hK_7' => ?_)
    refine wc_region ?_
    refine wv (OV.move rfl) ?_
    refine wv (OV.nilCheck rfl) ?_
    refine wv (OV.fieldAddr rfl tf_field_93_2) ?_
    obtain ⟨o_17', h⟩ := h
    refine wv (OV.loadEF (f := frC) (o := 2) 2 rfl rfl frC_len o_17' rfl tf_scal_3) ?_
    refine wv (OV.lss rfl rfl) ?_
    refine WL.nil ?_
    refine KX.go (hK_7' [(0, zP b), (2, Value.pointer (some ⟨(blkOf w_1'), (((f.length : Int) - 1)).toNat * 6, none⟩)), (30, zB (decide ((l_1'.getD (((f.length : Int) - 1)).toNat default).2.2.1 < 0)))] _ ?_) ⟨rfl, rfl, rfl, trivial⟩
    refine wc_cond (b := decide ((l_1'.getD (((f.length : Int) - 1)).toNat default).2.2.1 < 0)) rfl (fun hb => ?_) (fun hb => ?_)
    ·replace h := if_T h hb
     refine wc_region ?_
     refine wv (OV.move rfl) ?_
     refine wv (OV.move rfl) ?_
     refine wv (OV.nilCheck rfl) ?_
     refine wv (OV.fieldAddr rfl tf_field_93_4) ?_
     obtain ⟨o_18', h⟩ := h
     refine wv (OV.loadEF (f := frC) (o := 4) 2 rfl rfl frC_len o_18' rfl tf_scal_3) ?_
     refine wv (OV.nilCheck rfl) ?_
     refine wv (OV.fieldAddr rfl tf_field_93_2) ?_
     obtain ⟨o_19', h⟩ := h
     refine WL.storeEF (f := frC) (o := 2) (z := ((l_1'.getD (((f.length : Int) - 1)).toNat default).1, (l_1'.getD (((f.length : Int) - 1)).toNat default).2.1, (l_1'.getD (((f.length : Int) - 1)).toNat default).2.2.2.2.1, (l_1'.getD (((f.length : Int) - 1)).toNat default).2.2.2.1, (l_1'.getD (((f.length : Int) - 1)).toNat default).2.2.2.2.1, (l_1'.getD (((f.length : Int) - 1)).toNat default).2.2.2.2.2)) 2 rfl rfl rfl frC_len o_19' (by decide) rfl tf_size_3 rfl rfl rfl ?_
     refine WL.nil ?_
     exact KX.goH (hK_6' (w_4', l, l_1'.set ((((f.length : Int) - 1)).toNat) ((l_1'.getD (((f.length : Int) - 1)).toNat default).1, (l_1'.getD (((f.length : Int) - 1)).toNat default).2.1, (l_1'.getD (((f.length : Int) - 1)).toNat default).2.2.2.2.1, (l_1'.getD (((f.length : Int) - 1)).toNat default).2.2.2.1, (l_1'.getD (((f.length : Int) - 1)).toNat default).2.2.2.2.1, (l_1'.getD (((f.length : Int) - 1)).toNat default).2.2.2.2.2)) h) ⟨rfl, trivial⟩ [0, 1, 2] rfl rfl
    ·replace h := if_F h hb
     refine wc_seq (fun K0_8' hK_8' => ?_)
     refine wc_region ?_
     refine wv (OV.move rfl) ?_
     refine wv (OV.nilCheck rfl) ?_
     refine wv (OV.fieldAddr rfl tf_field_93_3) ?_
     obtain ⟨o_20', h⟩ := h
     refine wv (OV.loadEF (f := frC) (o := 3) 2 rfl rfl frC_len o_20' rfl tf_scal_5) ?_
     refine wv (OV.eql rfl rfl) ?_
     refine WL.nil ?_
     refine KX.go (hK_8' [(0, zP b), (2, Value.pointer (some ⟨(blkOf w_1'), (((f.length : Int) - 1)).toNat * 6, none⟩)), (42, zB (decide ((l_1'.getD (((f.length : Int) - 1)).toNat default).2.2.2.1 = 38)))] _ ?_) ⟨rfl, rfl, rfl, trivial⟩
     refine wc_cond (b := decide ((l_1'.getD (((f.length : Int) - 1)).toNat default).2.2.2.1 = 38)) rfl (fun hb => ?_) (fun hb => ?_)
     ·replace h := if_T h hb
      refine wc_drawC 10 [2] [HA.row w_1' 93 6 l_1'.length (l_1'.flatMap frC)] rfl rfl tf_mixed (by kernel_rfl) (fun T_3' hT_3' => ?_)
      refine TW.val (OV.move rfl) rfl rfl rfl ?_
      refine TW.val (OV.move rfl) rfl rfl rfl ?_
      refine TW.val (OV.move rfl) rfl rfl rfl ?_
      refine TW.val (OV.nilCheck rfl) rfl rfl rfl ?_
      refine TW.val (OV.fieldAddr rfl tf_field_93_2) rfl rfl rfl ?_
      obtain ⟨o_21', h⟩ := h
      refine TW.val (OV.loadEF (f := frC) (o := 2) 0 rfl rfl frC_len o_21' rfl tf_scal_3) rfl rfl rfl ?_
      refine TW.val (OV.move rfl) rfl rfl rfl ?_
      refine TW.val (OV.nilCheck rfl) rfl rfl rfl ?_
      refine TW.val (OV.fieldAddr rfl tf_field_93_4) rfl rfl rfl ?_
      obtain ⟨o_22', h⟩ := h
      refine TW.val (OV.loadEF (f := frC) (o := 4) 0 rfl rfl frC_len o_22' rfl tf_scal_3) rfl rfl rfl ?_
      refine TW.nil (hT_3' _ ?_)
      obtain ⟨o_23', h⟩ := h
      refine WLX.callS [0] rfl (EN.fn tf_ent_81 rfl) rfl (radd_does b w_4' l w_1' 5 ((l_1'.getD (((f.length : Int) - 1)).toNat default).2.2.1) ((l_1'.getD (((f.length : Int) - 1)).toNat default).2.2.2.2.1) o_23') rfl rfl trivial rfl rfl (fun r H' hS => ?_) (fun c H' hS => ?_)
      ·obtain ⟨w_8', ho⟩ := hS
       cases ho
       refine WLX.op [2] rfl rfl (OpK.val (OV.nilCheck rfl) rfl rfl) rfl ?_
       refine WLX.op [2] rfl rfl (OpK.val (OV.fieldAddr rfl tf_field_93_2) rfl rfl) rfl ?_
       obtain ⟨o_24', h⟩ := h
       refine WLX.opZ (OpK.storeEF (f := frC) (o := 2) (z := ((l_1'.getD (((f.length : Int) - 1)).toNat default).1, (l_1'.getD (((f.length : Int) - 1)).toNat default).2.1, (l.length : Int), (l_1'.getD (((f.length : Int) - 1)).toNat default).2.2.2.1, (l_1'.getD (((f.length : Int) - 1)).toNat default).2.2.2.2.1, (l_1'.getD (((f.length : Int) - 1)).toNat default).2.2.2.2.2)) 2 rfl rfl rfl frC_len o_24' (by decide) rfl tf_size_3 rfl rfl) rfl ?_
       refine WLX.nil ?_
       exact KX.goH (hK_6' (w_8', l ++ [(5, fun _ => false, (l_1'.getD (((f.length : Int) - 1)).toNat default).2.2.1, (l_1'.getD (((f.length : Int) - 1)).toNat default).2.2.2.2.1, 0, 0)], l_1'.set ((((f.length : Int) - 1)).toNat) ((l_1'.getD (((f.length : Int) - 1)).toNat default).1, (l_1'.getD (((f.length : Int) - 1)).toNat default).2.1, (l.length : Int), (l_1'.getD (((f.length : Int) - 1)).toNat default).2.2.2.1, (l_1'.getD (((f.length : Int) - 1)).toNat default).2.2.2.2.1, (l_1'.getD (((f.length : Int) - 1)).toNat default).2.2.2.2.2)) h) ⟨rfl, trivial⟩ [0, 1, 2] rfl rfl
      ·obtain ⟨w_8', ho⟩ := hS
       cases ho
     ·replace h := if_F h hb
      refine wc_drawC 10 [2] [HA.row w_1' 93 6 l_1'.length (l_1'.flatMap frC)] rfl rfl tf_mixed (by kernel_rfl) (fun T_4' hT_4' => ?_)
      refine TW.val (OV.move rfl) rfl rfl rfl ?_
      refine TW.val (OV.move rfl) rfl rfl rfl ?_
      refine TW.val (OV.move rfl) rfl rfl rfl ?_
      refine TW.val (OV.nilCheck rfl) rfl rfl rfl ?_
      refine TW.val (OV.fieldAddr rfl tf_field_93_2) rfl rfl rfl ?_
      obtain ⟨o_25', h⟩ := h
      refine TW.val (OV.loadEF (f := frC) (o := 2) 0 rfl rfl frC_len o_25' rfl tf_scal_3) rfl rfl rfl ?_
      refine TW.val (OV.move rfl) rfl rfl rfl ?_
      refine TW.val (OV.nilCheck rfl) rfl rfl rfl ?_
      refine TW.val (OV.fieldAddr rfl tf_field_93_4) rfl rfl rfl ?_
      obtain ⟨o_26', h⟩ := h
      refine TW.val (OV.loadEF (f := frC) (o := 4) 0 rfl rfl frC_len o_26' rfl tf_scal_3) rfl rfl rfl ?_
      refine TW.nil (hT_4' _ ?_)
      obtain ⟨o_27', h⟩ := h
      refine WLX.callS [0] rfl (EN.fn tf_ent_81 rfl) rfl (radd_does b w_4' l w_1' 6 ((l_1'.getD (((f.length : Int) - 1)).toNat default).2.2.1) ((l_1'.getD (((f.length : Int) - 1)).toNat default).2.2.2.2.1) o_27') rfl rfl trivial rfl rfl (fun r H' hS => ?_) (fun c H' hS => ?_)
      ·obtain ⟨w_9', ho⟩ := hS
       cases ho
       refine WLX.op [2] rfl rfl (OpK.val (OV.nilCheck rfl) rfl rfl) rfl ?_
       refine WLX.op [2] rfl rfl (OpK.val (OV.fieldAddr rfl tf_field_93_2) rfl rfl) rfl ?_
       obtain ⟨o_28', h⟩ := h
       refine WLX.opZ (OpK.storeEF (f := frC) (o := 2) (z := ((l_1'.getD (((f.length : Int) - 1)).toNat default).1, (l_1'.getD (((f.length : Int) - 1)).toNat default).2.1, (l.length : Int), (l_1'.getD (((f.length : Int) - 1)).toNat default).2.2.2.1, (l_1'.getD (((f.length : Int) - 1)).toNat default).2.2.2.2.1, (l_1'.getD (((f.length : Int) - 1)).toNat default).2.2.2.2.2)) 2 rfl rfl rfl frC_len o_28' (by decide) rfl tf_size_3 rfl rfl) rfl ?_
       refine WLX.nil ?_
       exact KX.goH (hK_6' (w_9', l ++ [(6, fun _ => false, (l_1'.getD (((f.length : Int) - 1)).toNat default).2.2.1, (l_1'.getD (((f.length : Int) - 1)).toNat default).2.2.2.2.1, 0, 0)], l_1'.set ((((f.length : Int) - 1)).toNat) ((l_1'.getD (((f.length : Int) - 1)).toNat default).1, (l_1'.getD (((f.length : Int) - 1)).toNat default).2.1, (l.length : Int), (l_1'.getD (((f.length : Int) - 1)).toNat default).2.2.2.1, (l_1'.getD (((f.length : Int) - 1)).toNat default).2.2.2.2.1, (l_1'.getD (((f.length : Int) - 1)).toNat default).2.2.2.2.2)) h) ⟨rfl, trivial⟩ [0, 1, 2] rfl rfl
      ·obtain ⟨w_9', ho⟩ := hS
       cases ho
  ·skip
   refine wc_seq (fun K0_9' hK_9' => ?_)
   refine wc_region ?_
   refine wv (OV.move rfl) ?_
   refine wv (OV.nilCheck rfl) ?_
   refine wv (OV.fieldAddr rfl tf_field_93_4) ?_
   refine wv (OV.loadEF (f := frC) (o := 4) 2 rfl rfl frC_len (by omega) rfl tf_scal_3) ?_
   refine wv (OV.lss rfl rfl) ?_
   refine WL.nil ?_
   refine KX.go (hK_9' [(0, zP b), (2, Value.pointer (some ⟨(blkOf w_1'), (((f.length : Int) - 1)).toNat * 6, none⟩)), (20, zB (decide ((f.getD (((f.length : Int) - 1)).toNat default).2.2.2.2.1 < 0)))] _ ?_) ⟨rfl, rfl, rfl, trivial⟩
   refine wc_cond (b := decide ((f.getD (((f.length : Int) - 1)).toNat default).2.2.2.2.1 < 0)) rfl (fun hb => ?_) (fun hb => ?_)
   ·replace h := if_T h hb
    refine wc_region ?_
    refine wv (OV.move rfl) ?_
    refine wv (OV.move rfl) ?_
    obtain ⟨o_29', h⟩ := h
    refine WL.callS tf_ent_81 rfl (radd_does b w_2' n w_1' 0 0 0 o_29') rfl trivial rfl rfl (fun r H' hS => ?_) (fun c H' hS => ?_)
    ·obtain ⟨w_10', ho⟩ := hS
     cases ho
     refine wv (OV.nilCheck rfl) ?_
     refine wv (OV.fieldAddr rfl tf_field_93_4) ?_
     refine WL.storeEF (f := frC) (o := 4) (z := ((f.getD (((f.length : Int) - 1)).toNat default).1, (f.getD (((f.length : Int) - 1)).toNat default).2.1, (f.getD (((f.length : Int) - 1)).toNat default).2.2.1, (f.getD (((f.length : Int) - 1)).toNat default).2.2.2.1, (n.length : Int), (f.getD (((f.length : Int) - 1)).toNat default).2.2.2.2.2)) 2 rfl rfl rfl frC_len (by omega) (by decide) rfl tf_size_3 rfl rfl rfl ?_
     refine WL.nil ?_
     exact KX.goH (hK_3' (w_10', n ++ [(0, fun _ => false, 0, 0, 0, 0)], f.set ((((f.length : Int) - 1)).toNat) ((f.getD (((f.length : Int) - 1)).toNat default).1, (f.getD (((f.length : Int) - 1)).toNat default).2.1, (f.getD (((f.length : Int) - 1)).toNat default).2.2.1, (f.getD (((f.length : Int) - 1)).toNat default).2.2.2.1, (n.length : Int), (f.getD (((f.length : Int) - 1)).toNat default).2.2.2.2.2)) h) ⟨rfl, rfl, trivial⟩ [0, 1, 2] rfl rfl
    ·obtain ⟨w_10', ho⟩ := hS
     cases ho
   ·replace h := if_F h hb
    refine wc_skip ?_
    exact KX.goH (hK_3' (w_2', n, f) h) ⟨rfl, rfl, trivial⟩ [0, 1, 2] rfl rfl
 ·obtain ⟨w_2', n, f, hc, ho⟩ := hS
  cases ho

theorem rfold_does (b : Nat) (w1 : Value) (n : List ND) (w2 : Value) (s : List FR) (h : n.length ≤ 10000000 ∧ 0 < s.length ∧ s.length ≤ 10000) : Does Tryd.prog 46 [.pointer (some ⟨b, 0, none⟩)] [] [stB b w1 w2, ndR w1 n, frR w2 s]
  (fun o => ∃ w n2 s2, FoldR n s n2 s2 ∧ o = .ret (.tuple #[]) [stB b w w2, ndR w n2, frR w2 s2]) := by
 obtain ⟨hn, hs, hs2⟩ := h
 refine (rfold_wp b w1 w2 n s (fun n2 s2 => FoldR n s n2 s2) ?_).weak ?_
 ·unfold rfold_vc
  refine ⟨⟨hn, hs, hs2⟩, ?_⟩
  rintro n1 s1 ⟨l1, l2, l3⟩
  obtain ⟨pre, f, rfl⟩ := last_form (s := s1) (by omega)
  simp only [last_ix, getD_last, set_last]
  refine ⟨by unfold I64; omega, by omega, ?_⟩
  -- the row holds a tree
  refine ⟨fun l s2 => ∃ g : FR, s2 = pre ++ [g] ∧ l.length ≤ n.length + 2 ∧ ∀ a rest, SRel n s (a :: rest) → NOK n → NOK l ∧ SRel l pre rest ∧ g.1 = a.place ∧ IxR l g.2.1 a.alt ∧ IxR l g.2.2.1 a.meet ∧ g.2.2.2.1 = a.sign ∧ Den l g.2.2.2.2.1 a.rowT ∧ g.2.2.2.2.2 = -1, ?_, ?_⟩
  ·rintro l s2 ⟨g, rfl, g1, g2⟩
   simp only [getD_last, set_last]
   have hpl : pre.length < (pre ++ [g]).length := by simp
   refine ⟨fun l' s3 => ∃ q : FR, s3 = pre ++ [q] ∧ l'.length ≤ n.length + 3 ∧ ∀ a rest, SRel n s (a :: rest) → NOK n → NOK l' ∧ SRel l' pre rest ∧ FrR l' (q.1, q.2.1, q.2.2.1, q.2.2.2.1, -1, q.2.2.2.2.2) a.fold, ?_, hpl, ?_⟩
   ·rintro l' s3 ⟨q, rfl, q1, q2⟩
    simp only [getD_last, set_last]
    refine ⟨by simp, by simp only [List.length_append, List.length_cons, List.length_nil] at l1 ⊢; omega, by omega, fun a rest hr hk => ?_⟩
    obtain ⟨e1, e2, e3⟩ := q2 a rest hr hk
    exact ⟨SRel.snoc.2 ⟨e3, e2⟩, e1⟩
   ·by_cases hm : g.2.2.1 < 0
    ·rw [if_pos (by simpa using hm)]
     refine ⟨hpl, hpl, _, rfl, by omega, fun a rest hr hk => ?_⟩
     obtain ⟨r0, r1, r2, r3, r4, r5, r6, r7⟩ := g2 a rest hr hk
     refine ⟨r0, r1, r2, r3, ?_, r5, rfl, r7⟩
     show IxR l _ (some (meetT a a.rowT))
     unfold meetT; rw [(r4.neg hm).1]; exact r6
    ·rw [if_neg (by simpa using hm)]
     have key : ∀ op : Int, (op = 5 ∨ op = 6) → (∀ a rest, SRel n s (a :: rest) → NOK n → op = if a.sign = 38 then 5 else 6) → ∃ q : FR, pre ++ [(g.1, g.2.1, (l.length : Int), g.2.2.2.1, g.2.2.2.2.1, g.2.2.2.2.2)] = pre ++ [q] ∧ (l ++ [(op, fun _ => false, g.2.2.1, g.2.2.2.2.1, 0, 0)]).length ≤ n.length + 3 ∧ ∀ a rest, SRel n s (a :: rest) → NOK n → NOK (l ++ [(op, fun _ => false, g.2.2.1, g.2.2.2.2.1, 0, 0)]) ∧ SRel (l ++ [(op, fun _ => false, g.2.2.1, g.2.2.2.2.1, 0, 0)]) pre rest ∧ FrR (l ++ [(op, fun _ => false, g.2.2.1, g.2.2.2.2.1, 0, 0)]) (q.1, q.2.1, q.2.2.1, q.2.2.2.1, -1, q.2.2.2.2.2) a.fold := by
      intro op ho hsig
      refine ⟨_, rfl, by simp; omega, fun a rest hr hk => ?_⟩
      obtain ⟨r0, r1, r2, r3, r4, r5, r6, r7⟩ := g2 a rest hr hk
      obtain ⟨z, e1, e2⟩ := r4.pos hm
      have hd := den_bin (op := op) (by omega) e2 r6
      refine ⟨r0.snoc hd, FRel.more _ r1, r2, r3.more _, ?_, r5, rfl, r7⟩
      show IxR _ _ (some (meetT a a.rowT))
      have : meetT a a.rowT = binT op z a.rowT := by
       have h0 := hsig a rest hr hk
       unfold meetT andT binT
       rw [e1]
       simp only
       by_cases hsg : a.sign = 38
       ·rw [if_pos hsg] at h0 ⊢; subst h0; rfl
       ·rw [if_neg hsg] at h0 ⊢; subst h0; rfl
      rw [this]; exact hd
     refine ⟨hpl, ?_⟩
     by_cases hg : g.2.2.2.1 = 38
     ·rw [if_pos (by simpa using hg)]
      exact ⟨hpl, hpl, by omega, hpl, key 5 (.inl rfl) fun a rest hr hk => by rw [if_pos (by rw [← (g2 a rest hr hk).2.2.2.2.2.1]; exact hg)]⟩
     ·rw [if_neg (by simpa using hg)]
      exact ⟨hpl, hpl, by omega, hpl, key 6 (.inr rfl) fun a rest hr hk => by rw [if_neg (by rw [← (g2 a rest hr hk).2.2.2.2.2.1]; exact hg)]⟩
  ·by_cases hw : f.2.2.2.2.1 < 0
   ·rw [if_pos (by simpa using hw)]
    refine ⟨by omega, _, rfl, by simp; omega, fun a rest hr hk => ?_⟩
    obtain ⟨k1, k2⟩ := l3 a rest hr hk
    rw [SRel.snoc] at k1
    obtain ⟨r1, r2, r3, r4, r5, r6⟩ := k1.1
    refine ⟨k2.snoc (den_eps _), FRel.more _ k1.2, r1, r2.more _, r3.more _, r4, ?_, r6⟩
    have : a.rowT = .eps := by
     have h0 := (r5.neg hw).1
     unfold AF.rowT
     rw [show a.rowS = none from h0]; rfl
    rw [this]; exact den_eps _
   ·rw [if_neg (by simpa using hw)]
    refine ⟨_, rfl, by omega, fun a rest hr hk => ?_⟩
    obtain ⟨k1, k2⟩ := l3 a rest hr hk
    rw [SRel.snoc] at k1
    obtain ⟨r1, r2, r3, r4, r5, r6⟩ := k1.1
    obtain ⟨x, e1, e2⟩ := r5.pos hw
    refine ⟨k2, k1.2, r1, r2, r3, r4, ?_, r6⟩
    have : a.rowT = x := by
     unfold AF.rowT
     rw [show a.rowS = some x from e1]; rfl
    rw [this]; exact e2
 ·rintro o (⟨w, n2, s2, hK, rfl⟩ | h)
  ·exact ⟨w, n2, s2, hK, rfl⟩
  ·exact h.elim

def rclose_vc (sl : List ND) (sl_1' : List FR) (K : (List ND) → (List FR) → Prop) : Prop :=
 (sl.length ≤ 10000000 ∧ 0 < sl_1'.length ∧ sl_1'.length ≤ 10000) ∧
 (∀ (n : List ND) (f : List FR), FoldR sl sl_1' n f →
  (I64 ((f.length : Int) - 1)) ∧
  (0 ≤ ((f.length : Int) - 1) ∧ ((f.length : Int) - 1) < (f.length : Int)) ∧
  ∃ (J0 : (List ND) → (List FR) → Prop),
   (∀ (l : List ND) (l_1' : List FR), J0 l l_1' →
    ((((f.length : Int) - 1)).toNat < l_1'.length) ∧
    K l (l_1'.set ((((f.length : Int) - 1)).toNat) ((l_1'.getD (((f.length : Int) - 1)).toNat default).1, (l_1'.getD (((f.length : Int) - 1)).toNat default).2.1, (-1), (l_1'.getD (((f.length : Int) - 1)).toNat default).2.2.2.1, (l_1'.getD (((f.length : Int) - 1)).toNat default).2.2.2.2.1, (l_1'.getD (((f.length : Int) - 1)).toNat default).2.2.2.2.2))) ∧
   (if (decide ((f.getD (((f.length : Int) - 1)).toNat default).2.1 < 0)) = true then
    J0 n (f.set ((((f.length : Int) - 1)).toNat) ((f.getD (((f.length : Int) - 1)).toNat default).1, (f.getD (((f.length : Int) - 1)).toNat default).2.2.1, (f.getD (((f.length : Int) - 1)).toNat default).2.2.1, (f.getD (((f.length : Int) - 1)).toNat default).2.2.2.1, (f.getD (((f.length : Int) - 1)).toNat default).2.2.2.2.1, (f.getD (((f.length : Int) - 1)).toNat default).2.2.2.2.2))
   else
    (n.length ≤ 100000000) ∧
    (
     J0 (n ++ [(3, fun _ => false, (f.getD (((f.length : Int) - 1)).toNat default).2.1, (f.getD (((f.length : Int) - 1)).toNat default).2.2.1, 0, 0)]) (f.set ((((f.length : Int) - 1)).toNat) ((f.getD (((f.length : Int) - 1)).toNat default).1, (n.length : Int), (f.getD (((f.length : Int) - 1)).toNat default).2.2.1, (f.getD (((f.length : Int) - 1)).toNat default).2.2.2.1, (f.getD (((f.length : Int) - 1)).toNat default).2.2.2.2.1, (f.getD (((f.length : Int) - 1)).toNat default).2.2.2.2.2)))))
set_option maxRecDepth 100000 in
theorem rclose_wp (b : Nat) (w : Value) (w_1' : Value) (sl : List ND) (sl_1' : List FR) (K : (List ND) → (List FR) → Prop) (h : rclose_vc sl sl_1' K) :
  Does Tryd.prog 45 [zP b] [] [HA.blk b (.cells [w, w_1'].toArray 91 (0, 0)), HA.row w 102 261 sl.length (sl.flatMap ndC), HA.row w_1' 93 6 sl_1'.length (sl_1'.flatMap frC)] (fun o => (∃ (w_6' : Value) (d : List ND) (d_1' : List FR), K d d_1' ∧ o = .ret (Value.tuple #[]) [HA.blk b (.cells [w_6', w_1'].toArray 91 (0, 0)), HA.row w_6' 102 261 d.length (d.flatMap ndC), HA.row w_1' 93 6 d_1'.length (d_1'.flatMap frC)]) ∨ (False)) := by
 unfold rclose_vc at h
 refine does_of_wc (n := 44) (L0 := [(0, zP b)]) Tryd.func45 rfl rfl rfl rfl (fun w0 M Q hE => ?_)
 refine wc_seq (fun K0 hK => ?_)
 refine wc_region ?_
 refine wv (OV.move rfl) ?_
 obtain ⟨o, h⟩ := h
 refine WL.callS tf_ent_46 rfl (rfold_does b w sl w_1' sl_1' o) rfl trivial rfl rfl (fun r H' hS => ?_) (fun c H' hS => ?_)
 ·obtain ⟨w_2', n, f, hc, ho⟩ := hS
  cases ho
  replace h := h n f hc
  refine WL.nil ?_
  refine KX.go (hK [(0, zP b)] _ ?_) ⟨rfl, trivial⟩
  refine wc_seq (fun K0_1' hK_1' => ?_)
  refine wc_draw 10 [] tf_mixed (by kernel_rfl) rfl (fun T hT => ?_)
  refine FL.val (fun _ => OV.move rfl) rfl (fun _ => rfl) rfl rfl ?_
  refine FL.val (fun _ => OV.nilCheck rfl) rfl (fun _ => rfl) rfl rfl ?_
  refine FL.val (fun _ => OV.fieldAddr0 rfl tf_field_91_1) rfl (fun _ => rfl) rfl rfl ?_
  refine FL.val (fun _ => OV.load rfl (At.own 0 rfl) rfl tf_scal_89) rfl (fun _ => rfl) rfl rfl ?_
  refine FL.val (fun _ => OV.move rfl) rfl (fun _ => rfl) rfl rfl ?_
  refine FL.val (fun _ => OV.nilCheck rfl) rfl (fun _ => rfl) rfl rfl ?_
  refine FL.val (fun _ => OV.fieldAddr0 rfl tf_field_91_1) rfl (fun _ => rfl) rfl rfl ?_
  refine FL.val (fun _ => OV.load rfl (At.own 0 rfl) rfl tf_scal_89) rfl (fun _ => rfl) rfl rfl ?_
  refine FL.val (fun _ => OV.lenRow 2 rfl rfl tf_sl_89) rfl (fun _ => rfl) rfl rfl ?_
  obtain ⟨o_1', h⟩ := h
  refine FL.val (fun _ => OV.sub rfl rfl o_1') rfl (fun _ => rfl) rfl rfl ?_
  refine FL.weak (L' := fun γ => [(0, zP b), (8, w_1'), (14, zI ((f.length : Int) - 1))]) (fun γ => ⟨rfl, rfl, rfl, trivial⟩) (FL.nil (hT (fun γ => [(0, zP b), (8, w_1'), (14, zI ((f.length : Int) - 1))]) (fun γ => ?_)))
  obtain ⟨o_2', h⟩ := h
  refine wv (OV.indexRow 2 rfl rfl rfl tf_sl_89 o_2') ?_
  refine wv (OV.assign rfl) ?_
  refine WL.nil ?_
  refine KX.go (hK_1' [(0, zP b), (2, Value.pointer (some ⟨(blkOf w_1'), (((f.length : Int) - 1)).toNat * 6, none⟩))] _ ?_) ⟨rfl, rfl, trivial⟩
  obtain ⟨J0, hJ, h⟩ := h
  refine wc_seqJ (X := Value × (List ND) × (List FR)) (fun σ => J0 σ.2.1 σ.2.2) (fun σ => [(2, Value.pointer (some ⟨(blkOf w_1'), (((f.length : Int) - 1)).toNat * 6, none⟩))]) (fun σ => [HA.blk b (.cells [σ.1, w_1'].toArray 91 (0, 0)), HA.row σ.1 102 261 σ.2.1.length (σ.2.1.flatMap ndC), HA.row w_1' 93 6 σ.2.2.length (σ.2.2.flatMap frC)]) ?_ (fun K0_3' hK_3' => ?_)
  ·rintro ⟨w_4', l, l_1'⟩ hj
   replace h := hJ l l_1' hj
   show WC _ _ _ _ [(2, Value.pointer (some ⟨(blkOf w_1'), (((f.length : Int) - 1)).toNat * 6, none⟩))] [HA.blk b (.cells [w_4', w_1'].toArray 91 (0, 0)), HA.row w_4' 102 261 l.length (l.flatMap ndC), HA.row w_1' 93 6 l_1'.length (l_1'.flatMap frC)]
   refine wc_region ?_
   refine wv (OV.move rfl) ?_
   refine wv (OV.nilCheck rfl) ?_
   refine wv (OV.fieldAddr rfl tf_field_93_2) ?_
   obtain ⟨o_4', h⟩ := h
   refine WL.storeEF (f := frC) (o := 2) (z := ((l_1'.getD (((f.length : Int) - 1)).toNat default).1, (l_1'.getD (((f.length : Int) - 1)).toNat default).2.1, (-1), (l_1'.getD (((f.length : Int) - 1)).toNat default).2.2.2.1, (l_1'.getD (((f.length : Int) - 1)).toNat default).2.2.2.2.1, (l_1'.getD (((f.length : Int) - 1)).toNat default).2.2.2.2.2)) 2 rfl rfl rfl frC_len o_4' (by decide) rfl tf_size_3 rfl rfl rfl ?_
   refine WL.nil ?_
   exact hE.norm [0, 1, 2] rfl rfl (.inl ⟨_, _, _, h, rfl⟩) (ResV.none rfl)
  ·skip
   refine wc_seq (fun K0_4' hK_4' => ?_)
   refine wc_region ?_
   refine wv (OV.move rfl) ?_
   refine wv (OV.nilCheck rfl) ?_
   refine wv (OV.fieldAddr rfl tf_field_93_1) ?_
   refine wv (OV.loadEF (f := frC) (o := 1) 2 rfl rfl frC_len (by omega) rfl tf_scal_3) ?_
   refine wv (OV.lss rfl rfl) ?_
   refine WL.nil ?_
   refine KX.go (hK_4' [(0, zP b), (2, Value.pointer (some ⟨(blkOf w_1'), (((f.length : Int) - 1)).toNat * 6, none⟩)), (20, zB (decide ((f.getD (((f.length : Int) - 1)).toNat default).2.1 < 0)))] _ ?_) ⟨rfl, rfl, rfl, trivial⟩
   refine wc_cond (b := decide ((f.getD (((f.length : Int) - 1)).toNat default).2.1 < 0)) rfl (fun hb => ?_) (fun hb => ?_)
   ·replace h := if_T h hb
    refine wc_region ?_
    refine wv (OV.move rfl) ?_
    refine wv (OV.move rfl) ?_
    refine wv (OV.nilCheck rfl) ?_
    refine wv (OV.fieldAddr rfl tf_field_93_2) ?_
    refine wv (OV.loadEF (f := frC) (o := 2) 2 rfl rfl frC_len (by omega) rfl tf_scal_3) ?_
    refine wv (OV.nilCheck rfl) ?_
    refine wv (OV.fieldAddr rfl tf_field_93_1) ?_
    refine WL.storeEF (f := frC) (o := 1) (z := ((f.getD (((f.length : Int) - 1)).toNat default).1, (f.getD (((f.length : Int) - 1)).toNat default).2.2.1, (f.getD (((f.length : Int) - 1)).toNat default).2.2.1, (f.getD (((f.length : Int) - 1)).toNat default).2.2.2.1, (f.getD (((f.length : Int) - 1)).toNat default).2.2.2.2.1, (f.getD (((f.length : Int) - 1)).toNat default).2.2.2.2.2)) 2 rfl rfl rfl frC_len (by omega) (by decide) rfl tf_size_3 rfl rfl rfl ?_
    refine WL.nil ?_
    exact KX.goH (hK_3' (w_2', n, f.set ((((f.length : Int) - 1)).toNat) ((f.getD (((f.length : Int) - 1)).toNat default).1, (f.getD (((f.length : Int) - 1)).toNat default).2.2.1, (f.getD (((f.length : Int) - 1)).toNat default).2.2.1, (f.getD (((f.length : Int) - 1)).toNat default).2.2.2.1, (f.getD (((f.length : Int) - 1)).toNat default).2.2.2.2.1, (f.getD (((f.length : Int) - 1)).toNat default).2.2.2.2.2)) h) ⟨rfl, trivial⟩ [0, 1, 2] rfl rfl
   ·replace h := if_F h hb
    refine wc_drawC 10 [2] [HA.row w_1' 93 6 f.length (f.flatMap frC)] rfl rfl tf_mixed (by kernel_rfl) (fun T_2' hT_2' => ?_)
    refine TW.val (OV.move rfl) rfl rfl rfl ?_
    refine TW.val (OV.move rfl) rfl rfl rfl ?_
    refine TW.val (OV.move rfl) rfl rfl rfl ?_
    refine TW.val (OV.nilCheck rfl) rfl rfl rfl ?_
    refine TW.val (OV.fieldAddr rfl tf_field_93_1) rfl rfl rfl ?_
    refine TW.val (OV.loadEF (f := frC) (o := 1) 0 rfl rfl frC_len (by omega) rfl tf_scal_3) rfl rfl rfl ?_
    refine TW.val (OV.move rfl) rfl rfl rfl ?_
    refine TW.val (OV.nilCheck rfl) rfl rfl rfl ?_
    refine TW.val (OV.fieldAddr rfl tf_field_93_2) rfl rfl rfl ?_
    refine TW.val (OV.loadEF (f := frC) (o := 2) 0 rfl rfl frC_len (by omega) rfl tf_scal_3) rfl rfl rfl ?_
    refine TW.nil (hT_2' _ ?_)
    obtain ⟨o_5', h⟩ := h
    refine WLX.callS [0] rfl (EN.fn tf_ent_81 rfl) rfl (radd_does b w_2' n w_1' 3 ((f.getD (((f.length : Int) - 1)).toNat default).2.1) ((f.getD (((f.length : Int) - 1)).toNat default).2.2.1) o_5') rfl rfl trivial rfl rfl (fun r H' hS => ?_) (fun c H' hS => ?_)
    ·obtain ⟨w_5', ho⟩ := hS
     cases ho
     refine WLX.op [2] rfl rfl (OpK.val (OV.nilCheck rfl) rfl rfl) rfl ?_
     refine WLX.op [2] rfl rfl (OpK.val (OV.fieldAddr rfl tf_field_93_1) rfl rfl) rfl ?_
     refine WLX.opZ (OpK.storeEF (f := frC) (o := 1) (z := ((f.getD (((f.length : Int) - 1)).toNat default).1, (n.length : Int), (f.getD (((f.length : Int) - 1)).toNat default).2.2.1, (f.getD (((f.length : Int) - 1)).toNat default).2.2.2.1, (f.getD (((f.length : Int) - 1)).toNat default).2.2.2.2.1, (f.getD (((f.length : Int) - 1)).toNat default).2.2.2.2.2)) 2 rfl rfl rfl frC_len (by omega) (by decide) rfl tf_size_3 rfl rfl) rfl ?_
     refine WLX.nil ?_
     exact KX.goH (hK_3' (w_5', n ++ [(3, fun _ => false, (f.getD (((f.length : Int) - 1)).toNat default).2.1, (f.getD (((f.length : Int) - 1)).toNat default).2.2.1, 0, 0)], f.set ((((f.length : Int) - 1)).toNat) ((f.getD (((f.length : Int) - 1)).toNat default).1, (n.length : Int), (f.getD (((f.length : Int) - 1)).toNat default).2.2.1, (f.getD (((f.length : Int) - 1)).toNat default).2.2.2.1, (f.getD (((f.length : Int) - 1)).toNat default).2.2.2.2.1, (f.getD (((f.length : Int) - 1)).toNat default).2.2.2.2.2)) h) ⟨rfl, trivial⟩ [0, 1, 2] rfl rfl
    ·obtain ⟨w_5', ho⟩ := hS
     cases ho
 ·obtain ⟨w_2', n, f, hc, ho⟩ := hS
  cases ho

theorem rclose_does (b : Nat) (w1 : Value) (n : List ND) (w2 : Value) (s : List FR) (h : n.length ≤ 10000000 ∧ 0 < s.length ∧ s.length ≤ 10000) : Does Tryd.prog 45 [.pointer (some ⟨b, 0, none⟩)] [] [stB b w1 w2, ndR w1 n, frR w2 s]
  (fun o => ∃ w n2 s2, CloseR n s n2 s2 ∧ o = .ret (.tuple #[]) [stB b w w2, ndR w n2, frR w2 s2]) := by
 obtain ⟨hn, hs, hs2⟩ := h
 refine (rclose_wp b w1 w2 n s (fun n2 s2 => CloseR n s n2 s2) ?_).weak ?_
 ·unfold rclose_vc
  refine ⟨⟨hn, hs, hs2⟩, ?_⟩
  rintro n1 s1 ⟨l1, l2, l3⟩
  obtain ⟨pre, f, rfl⟩ := last_form (s := s1) (by omega)
  simp only [last_ix, getD_last, set_last]
  have hpl : ∀ g : FR, pre.length < (pre ++ [g]).length := fun g => by simp
  refine ⟨by unfold I64; omega, by omega, fun l s2 => ∃ g : FR, s2 = pre ++ [g] ∧ l.length ≤ n.length + 4 ∧ ∀ a rest, SRel n s (a :: rest) → NOK n → NOK l ∧ SRel l pre rest ∧ FrR l (g.1, g.2.1, -1, g.2.2.2.1, g.2.2.2.2.1, g.2.2.2.2.2) a.close, ?_, ?_⟩
  ·rintro l s2 ⟨g, rfl, g1, g2⟩
   simp only [getD_last, set_last]
   refine ⟨hpl g, by simp only [List.length_append, List.length_cons, List.length_nil] at l1 ⊢; omega, by omega, fun a rest hr hk => ?_⟩
   obtain ⟨e1, e2, e3⟩ := g2 a rest hr hk
   exact ⟨SRel.snoc.2 ⟨e3, e2⟩, e1⟩
  ·by_cases hw : f.2.1 < 0
   ·rw [if_pos (by simpa using hw)]
    refine ⟨_, rfl, by omega, fun a rest hr hk => ?_⟩
    obtain ⟨k1, k2⟩ := l3 a rest hr hk
    rw [SRel.snoc] at k1
    obtain ⟨r1, r2, r3, r4, r5, r6⟩ := k1.1
    refine ⟨k2, k1.2, r1, ?_, rfl, r4, r5, r6⟩
    show IxR _ _ (some a.whole)
    have h0 : a.alt = none := (r2.neg hw).1
    unfold AF.whole altT
    rw [h0]; exact r3
   ·rw [if_neg (by simpa using hw)]
    refine ⟨by omega, _, rfl, by simp; omega, fun a rest hr hk => ?_⟩
    obtain ⟨k1, k2⟩ := l3 a rest hr hk
    rw [SRel.snoc] at k1
    obtain ⟨r1, r2, r3, r4, r5, r6⟩ := k1.1
    obtain ⟨z, e1, e2⟩ := r2.pos hw
    have e3 : Den n1 f.2.2.1 (meetT a a.rowT) := r3
    have hd := den_bin (op := 3) (by omega) e2 e3
    refine ⟨k2.snoc hd, FRel.more _ k1.2, r1, ?_, rfl, r4, r5.more _, r6.more _⟩
    show IxR _ _ (some a.whole)
    have h0 : a.alt = some z := e1
    unfold AF.whole altT
    rw [h0]; exact hd
 ·rintro o (⟨w, n2, s2, hK, rfl⟩ | h)
  ·exact ⟨w, n2, s2, hK, rfl⟩
  ·exact h.elim

def postfix_vc (c : Int) (K : Bool → Prop) : Prop :=
 K ((((decide (c = 42)) || (decide (c = 43))) || (decide (c = 63))) || (decide (c = 123)))
set_option maxRecDepth 100000 in
theorem postfix_wp  (c : Int) (K : Bool → Prop) (h : postfix_vc c K) :
  Does Tryd.prog 43 [zU c] [] [] (fun o => (∃ (v : Bool), K v ∧ o = .ret (zB v) []) ∨ (False)) := by
 unfold postfix_vc at h
 refine does_of_wc (n := 17) (L0 := [(0, zU c)]) Tryd.func43 rfl rfl rfl rfl (fun w0 M Q hE => ?_)
 refine wc_seq (fun K0 hK => ?_)
 refine wc_region ?_
 refine wv (OV.assign rfl) ?_
 refine WL.nil ?_
 refine KX.go (hK [(0, zU c)] _ ?_) ⟨rfl, trivial⟩
 refine wc_seq (fun K0_1' hK_1' => ?_)
 refine wc_region ?_
 refine wv (OV.move rfl) ?_
 refine wv (OV.eql rfl rfl) ?_
 refine wv (OV.move rfl) ?_
 refine WL.cut 3 [(0, zU c), (8, zB ((decide (c = 42)) || (decide (c = 43))))] ?_ (fun K0_2' hK_2' => ?_)
 rotate_left
 ·refine WL.split (decide (c = 42)) (fun hb => ?_) (fun hb => ?_)
  ·refine WL.set 5 rfl (congrArg zB hb) ?_
   refine WL.skip rfl rfl rfl ?_
   refine WL.skip rfl rfl rfl ?_
   refine wv (OV.pickT rfl rfl) ?_
   refine WL.set 8 rfl (oT (v := decide (c = 43)) hb) ?_
   exact WL.end_ (KX.go hK_2' ⟨rfl, rfl, trivial⟩)
  ·refine WL.set 5 rfl (congrArg zB hb) ?_
   refine wv (OV.move rfl) ?_
   refine wv (OV.eql rfl rfl) ?_
   refine wv (OV.pickF rfl rfl) ?_
   refine WL.set 8 rfl (oF (v := decide (c = 43)) hb) ?_
   exact WL.end_ (KX.go hK_2' ⟨rfl, rfl, trivial⟩)
 refine wv (OV.move rfl) ?_
 refine WL.cut 3 [(0, zU c), (12, zB (((decide (c = 42)) || (decide (c = 43))) || (decide (c = 63))))] ?_ (fun K0_3' hK_3' => ?_)
 rotate_left
 ·refine WL.split ((decide (c = 42)) || (decide (c = 43))) (fun hb => ?_) (fun hb => ?_)
  ·refine WL.set 9 rfl (congrArg zB hb) ?_
   refine WL.skip rfl rfl rfl ?_
   refine WL.skip rfl rfl rfl ?_
   refine wv (OV.pickT rfl rfl) ?_
   refine WL.set 12 rfl (oT (v := decide (c = 63)) hb) ?_
   exact WL.end_ (KX.go hK_3' ⟨rfl, rfl, trivial⟩)
  ·refine WL.set 9 rfl (congrArg zB hb) ?_
   refine wv (OV.move rfl) ?_
   refine wv (OV.eql rfl rfl) ?_
   refine wv (OV.pickF rfl rfl) ?_
   refine WL.set 12 rfl (oF (v := decide (c = 63)) hb) ?_
   exact WL.end_ (KX.go hK_3' ⟨rfl, rfl, trivial⟩)
 refine wv (OV.move rfl) ?_
 refine WL.cut 3 [(16, zB ((((decide (c = 42)) || (decide (c = 43))) || (decide (c = 63))) || (decide (c = 123))))] ?_ (fun K0_4' hK_4' => ?_)
 rotate_left
 ·refine WL.split (((decide (c = 42)) || (decide (c = 43))) || (decide (c = 63))) (fun hb => ?_) (fun hb => ?_)
  ·refine WL.set 13 rfl (congrArg zB hb) ?_
   refine WL.skip rfl rfl rfl ?_
   refine WL.skip rfl rfl rfl ?_
   refine wv (OV.pickT rfl rfl) ?_
   refine WL.set 16 rfl (oT (v := decide (c = 123)) hb) ?_
   exact WL.end_ (KX.go hK_4' ⟨rfl, trivial⟩)
  ·refine WL.set 13 rfl (congrArg zB hb) ?_
   refine wv (OV.move rfl) ?_
   refine wv (OV.eql rfl rfl) ?_
   refine wv (OV.pickF rfl rfl) ?_
   refine WL.set 16 rfl (oF (v := decide (c = 123)) hb) ?_
   exact WL.end_ (KX.go hK_4' ⟨rfl, trivial⟩)
 refine wv (OV.assign rfl) ?_
 refine WL.nil ?_
 refine KX.go (hK_1' [(2, zB ((((decide (c = 42)) || (decide (c = 43))) || (decide (c = 63))) || (decide (c = 123))))] _ ?_) ⟨rfl, trivial⟩
 refine wc_ret ?_
 exact hE.ret [] rfl rfl (.inl ⟨_, h, rfl⟩) (ResV.of1 rfl (RV.tmp rfl))

def ropen_vc (place : Int) (K : Int → Int → Int → Int → Int → Int → Prop) : Prop :=
 K place (-1) (-1) 0 (-1) (-1)
set_option maxHeartbeats 2000000 in
set_option maxRecDepth 100000 in
theorem ropen_wp  (place : Int) (K : Int → Int → Int → Int → Int → Int → Prop) (h : ropen_vc place K) :
  Does Tryd.prog 42 [zI place] [] [] (fun o => (∃ (v_0 : Int) (v_1 : Int) (v_2 : Int) (v_3 : Int) (v_4 : Int) (v_5 : Int), K v_0 v_1 v_2 v_3 v_4 v_5 ∧ o = .ret (Value.agg [zI v_0, zI v_1, zI v_2, zU v_3, zI v_4, zI v_5].toArray) []) ∨ (False)) := by
 unfold ropen_vc at h
 refine does_of_wc (n := 5) (L0 := [(0, zI place)]) Tryd.func42 rfl rfl rfl rfl (fun w0 M Q hE => ?_)
 refine wc_seq (fun K0 hK => ?_)
 refine wc_region ?_
 refine WL.make (MV.alloc tf_zero_93) rfl rfl rfl (fun b => ?_)
 refine WL.nil ?_
 refine KX.go (hK [(0, zI place), (2, zP b)] _ ?_) ⟨rfl, rfl, trivial⟩
 refine wc_seq (fun K0_1' hK_1' => ?_)
 refine wc_region ?_
 refine wv (OV.move rfl) ?_
 refine wv (OV.build rfl (cs := [zI place, zI (-1), zI (-1), zU 0, zI (-1), zI (-1)]) rfl) ?_
 refine WL.storeW (vs := [zI place, zI (-1), zI (-1), zU 0, zI (-1), zI (-1)]) 0 rfl rfl rfl rfl rfl tf_size_93 rfl rfl rfl ?_
 refine WL.nil ?_
 refine KX.go (hK_1' [(2, zP b)] _ ?_) ⟨rfl, trivial⟩
 refine wc_ret ?_
 exact hE.ret [] rfl rfl (.inl ⟨_, _, _, _, _, _, h, rfl⟩) (ResV.of1 rfl (RV.row rfl (At.own 0 rfl) tf_row_93))

def digit_vc (text : List UInt8) (i : Int) (K : Bool → Prop) : Prop :=
 ((decide (i < (text.length : Int))) = true → (0 ≤ i ∧ i < text.length)) ∧
 (((decide (i < (text.length : Int))) && (decide (48 ≤ ((text.getD i.toNat 0).toNat : Int)))) = true → (0 ≤ i ∧ i < text.length)) ∧
 K (((decide (i < (text.length : Int))) && (decide (48 ≤ ((text.getD i.toNat 0).toNat : Int)))) && (decide (((text.getD i.toNat 0).toNat : Int) ≤ 57)))
set_option maxRecDepth 100000 in
theorem digit_wp  (text : List UInt8) (i : Int) (K : Bool → Prop) (h : digit_vc text i K) :
  Does Tryd.prog 80 [st text, zI i] [] [] (fun o => (∃ (v : Bool), K v ∧ o = .ret (zB v) []) ∨ (False)) := by
 unfold digit_vc at h
 refine does_of_wc (n := 21) (L0 := [(0, st text), (1, zI i)]) Tryd.func80 rfl rfl rfl rfl (fun w0 M Q hE => ?_)
 refine wc_seq (fun K0 hK => ?_)
 refine wc_region ?_
 refine wv (OV.assign rfl) ?_
 refine WL.nil ?_
 refine KX.go (hK [(0, st text), (1, zI i)] _ ?_) ⟨rfl, rfl, trivial⟩
 refine wc_seq (fun K0_1' hK_1' => ?_)
 refine wc_region ?_
 refine wv (OV.move rfl) ?_
 refine wv (OV.move rfl) ?_
 refine wv (OV.len rfl tf_str_9) ?_
 refine wv (OV.lss rfl rfl) ?_
 refine wv (OV.move rfl) ?_
 obtain ⟨o_1', h⟩ := h
 refine WL.cut 5 [(0, st text), (1, zI i), (14, zB ((decide (i < (text.length : Int))) && (decide (48 ≤ ((text.getD i.toNat 0).toNat : Int)))))] ?_ (fun K0_2' hK_2' => ?_)
 rotate_left
 ·refine WL.split (decide (i < (text.length : Int))) (fun hb => ?_) (fun hb => ?_)
  ·have o := o_1' hb
   refine WL.set 9 rfl (congrArg zB hb) ?_
   refine wv (OV.move rfl) ?_
   refine wv (OV.move rfl) ?_
   refine wv (OV.index rfl rfl tf_str_9 o) ?_
   refine wv (OV.geq rfl rfl) ?_
   refine wv (OV.pickT rfl rfl) ?_
   refine WL.set 14 rfl (bT (v := decide (48 ≤ ((text.getD i.toNat 0).toNat : Int))) hb) ?_
   exact WL.end_ (KX.go hK_2' ⟨rfl, rfl, rfl, trivial⟩)
  ·refine WL.set 9 rfl (congrArg zB hb) ?_
   refine WL.skip rfl rfl rfl ?_
   refine WL.skip rfl rfl rfl ?_
   refine WL.skip rfl rfl rfl ?_
   refine WL.skip rfl rfl rfl ?_
   refine wv (OV.pickF rfl rfl) ?_
   refine WL.set 14 rfl (bF (v := decide (48 ≤ ((text.getD i.toNat 0).toNat : Int))) hb) ?_
   exact WL.end_ (KX.go hK_2' ⟨rfl, rfl, rfl, trivial⟩)
 refine wv (OV.move rfl) ?_
 obtain ⟨o_3', h⟩ := h
 refine WL.cut 5 [(20, zB (((decide (i < (text.length : Int))) && (decide (48 ≤ ((text.getD i.toNat 0).toNat : Int)))) && (decide (((text.getD i.toNat 0).toNat : Int) ≤ 57))))] ?_ (fun K0_3' hK_3' => ?_)
 rotate_left
 ·refine WL.split ((decide (i < (text.length : Int))) && (decide (48 ≤ ((text.getD i.toNat 0).toNat : Int)))) (fun hb => ?_) (fun hb => ?_)
  ·have o_2' := o_3' hb
   refine WL.set 15 rfl (congrArg zB hb) ?_
   refine wv (OV.move rfl) ?_
   refine wv (OV.move rfl) ?_
   refine wv (OV.index rfl rfl tf_str_9 o_2') ?_
   refine wv (OV.leq rfl rfl) ?_
   refine wv (OV.pickT rfl rfl) ?_
   refine WL.set 20 rfl (bT (v := decide (((text.getD i.toNat 0).toNat : Int) ≤ 57)) hb) ?_
   exact WL.end_ (KX.go hK_3' ⟨rfl, trivial⟩)
  ·refine WL.set 15 rfl (congrArg zB hb) ?_
   refine WL.skip rfl rfl rfl ?_
   refine WL.skip rfl rfl rfl ?_
   refine WL.skip rfl rfl rfl ?_
   refine WL.skip rfl rfl rfl ?_
   refine wv (OV.pickF rfl rfl) ?_
   refine WL.set 20 rfl (bF (v := decide (((text.getD i.toNat 0).toNat : Int) ≤ 57)) hb) ?_
   exact WL.end_ (KX.go hK_3' ⟨rfl, trivial⟩)
 refine wv (OV.assign rfl) ?_
 refine WL.nil ?_
 refine KX.go (hK_1' [(4, zB (((decide (i < (text.length : Int))) && (decide (48 ≤ ((text.getD i.toNat 0).toNat : Int)))) && (decide (((text.getD i.toNat 0).toNat : Int) ≤ 57))))] _ ?_) ⟨rfl, trivial⟩
 refine wc_ret ?_
 exact hE.ret [] rfl rfl (.inl ⟨_, h, rfl⟩) (ResV.of1 rfl (RV.tmp rfl))

def rtimes_vc (a : Int) (m : Int) (n : Int) (K : Int → Prop) : Prop :=
 (if (decide (m = (-2))) = true then
  (I64 (a + 1)) ∧
  (I64 ((a + 1) + a)) ∧
  (I64 (((a + 1) + a) + 1)) ∧
  K (((a + 1) + a) + 1)
 else
  (if ((decide (n < 0)) && (decide (m = 0))) = true then
   (I64 (a + 1)) ∧
   K (a + 1)
  else
   (if (decide (n < 0)) = true then
    (I64 (m * a)) ∧
    (I64 ((m * a) + m)) ∧
    (I64 (((m * a) + m) - 1)) ∧
    (I64 ((((m * a) + m) - 1) + 1)) ∧
    (I64 (((((m * a) + m) - 1) + 1) + a)) ∧
    (I64 ((((((m * a) + m) - 1) + 1) + a) + 1)) ∧
    K ((((((m * a) + m) - 1) + 1) + a) + 1)
   else
    (if (decide (n = 0)) = true then
     K 1
    else
     (if (decide (m = 0)) = true then
      (I64 (a + 2)) ∧
      (I64 (n * (a + 2))) ∧
      (I64 ((n * (a + 2)) + n)) ∧
      (I64 (((n * (a + 2)) + n) - 1)) ∧
      K (((n * (a + 2)) + n) - 1)
     else
      (I64 (m * a)) ∧
      (I64 ((m * a) + m)) ∧
      (I64 (((m * a) + m) - 1)) ∧
      (I64 (n - m)) ∧
      (I64 (a + 2)) ∧
      (I64 ((a + 2) + 1)) ∧
      (I64 ((n - m) * ((a + 2) + 1))) ∧
      (I64 ((((m * a) + m) - 1) + ((n - m) * ((a + 2) + 1)))) ∧
      K ((((m * a) + m) - 1) + ((n - m) * ((a + 2) + 1))))))))
set_option maxRecDepth 100000 in
theorem rtimes_wp  (a : Int) (m : Int) (n : Int) (K : Int → Prop) (h : rtimes_vc a m n K) :
  Does Tryd.prog 83 [zI a, zI m, zI n] [] [] (fun o => (∃ (v : Int), K v ∧ o = .ret (zI v) []) ∨ (False)) := by
 unfold rtimes_vc at h
 refine does_of_wc (n := 59) (L0 := [(0, zI a), (1, zI m), (2, zI n)]) Tryd.func83 rfl rfl rfl rfl (fun w0 M Q hE => ?_)
 refine wc_seq (fun K0 hK => ?_)
 refine wc_region ?_
 refine wv (OV.assign rfl) ?_
 refine WL.nil ?_
 refine KX.go (hK [(0, zI a), (1, zI m), (2, zI n)] _ ?_) ⟨rfl, rfl, rfl, trivial⟩
 refine wc_seq (fun K0_1' hK_1' => ?_)
 refine wc_seq (fun K0_2' hK_2' => ?_)
 refine wc_region ?_
 refine wv (OV.move rfl) ?_
 refine wv (OV.eql rfl rfl) ?_
 refine WL.nil ?_
 refine KX.go (hK_2' [(0, zI a), (1, zI m), (2, zI n), (8, zB (decide (m = (-2))))] _ ?_) ⟨rfl, rfl, rfl, rfl, trivial⟩
 refine wc_cond (b := decide (m = (-2))) rfl (fun hb => ?_) (fun hb => ?_)
 ·replace h := if_T h hb
  refine wc_seq (fun K0_3' hK_3' => ?_)
  refine wc_region ?_
  refine wv (OV.move rfl) ?_
  obtain ⟨o, h⟩ := h
  refine wv (OV.add rfl rfl o) ?_
  refine wv (OV.move rfl) ?_
  obtain ⟨o_1', h⟩ := h
  refine wv (OV.add rfl rfl o_1') ?_
  obtain ⟨o_2', h⟩ := h
  refine wv (OV.add rfl rfl o_2') ?_
  refine wv (OV.assign rfl) ?_
  refine WL.nil ?_
  refine KX.go (hK_3' [(6, zI (((a + 1) + a) + 1))] _ ?_) ⟨rfl, trivial⟩
  refine wc_ret ?_
  exact hE.ret [] rfl rfl (.inl ⟨_, h, rfl⟩) (ResV.of1 rfl (RV.tmp rfl))
 ·replace h := if_F h hb
  refine wc_skip ?_
  refine KX.go (hK_1' [(0, zI a), (1, zI m), (2, zI n)] _ ?_) ⟨rfl, rfl, rfl, trivial⟩
  refine wc_seq (fun K0_4' hK_4' => ?_)
  refine wc_seq (fun K0_5' hK_5' => ?_)
  refine wc_region ?_
  refine wv (OV.move rfl) ?_
  refine wv (OV.lss rfl rfl) ?_
  refine wv (OV.move rfl) ?_
  refine WL.cut 3 [(0, zI a), (1, zI m), (2, zI n), (19, zB ((decide (n < 0)) && (decide (m = 0))))] ?_ (fun K0_6' hK_6' => ?_)
  rotate_left
  ·refine WL.split (decide (n < 0)) (fun hb => ?_) (fun hb => ?_)
   ·refine WL.set 16 rfl (congrArg zB hb) ?_
    refine wv (OV.move rfl) ?_
    refine wv (OV.eql rfl rfl) ?_
    refine wv (OV.pickT rfl rfl) ?_
    refine WL.set 19 rfl (bT (v := decide (m = 0)) hb) ?_
    exact WL.end_ (KX.go hK_6' ⟨rfl, rfl, rfl, rfl, trivial⟩)
   ·refine WL.set 16 rfl (congrArg zB hb) ?_
    refine WL.skip rfl rfl rfl ?_
    refine WL.skip rfl rfl rfl ?_
    refine wv (OV.pickF rfl rfl) ?_
    refine WL.set 19 rfl (bF (v := decide (m = 0)) hb) ?_
    exact WL.end_ (KX.go hK_6' ⟨rfl, rfl, rfl, rfl, trivial⟩)
  refine WL.nil ?_
  refine KX.go (hK_5' [(0, zI a), (1, zI m), (2, zI n), (19, zB ((decide (n < 0)) && (decide (m = 0))))] _ ?_) ⟨rfl, rfl, rfl, rfl, trivial⟩
  refine wc_cond (b := (decide (n < 0)) && (decide (m = 0))) rfl (fun hb => ?_) (fun hb => ?_)
  ·replace h := if_T h hb
   refine wc_seq (fun K0_7' hK_7' => ?_)
   refine wc_region ?_
   refine wv (OV.move rfl) ?_
   obtain ⟨o_4', h⟩ := h
   refine wv (OV.add rfl rfl o_4') ?_
   refine wv (OV.assign rfl) ?_
   refine WL.nil ?_
   refine KX.go (hK_7' [(6, zI (a + 1))] _ ?_) ⟨rfl, trivial⟩
   refine wc_ret ?_
   exact hE.ret [] rfl rfl (.inl ⟨_, h, rfl⟩) (ResV.of1 rfl (RV.tmp rfl))
  ·replace h := if_F h hb
   refine wc_skip ?_
   refine KX.go (hK_4' [(0, zI a), (1, zI m), (2, zI n)] _ ?_) ⟨rfl, rfl, rfl, trivial⟩
   refine wc_seq (fun K0_8' hK_8' => ?_)
   refine wc_seq (fun K0_9' hK_9' => ?_)
   refine wc_region ?_
   refine wv (OV.move rfl) ?_
   refine wv (OV.lss rfl rfl) ?_
   refine WL.nil ?_
   refine KX.go (hK_9' [(0, zI a), (1, zI m), (2, zI n), (23, zB (decide (n < 0)))] _ ?_) ⟨rfl, rfl, rfl, rfl, trivial⟩
   refine wc_cond (b := decide (n < 0)) rfl (fun hb => ?_) (fun hb => ?_)
   ·replace h := if_T h hb
    refine wc_seq (fun K0_10' hK_10' => ?_)
    refine wc_region ?_
    refine wv (OV.move rfl) ?_
    refine wv (OV.move rfl) ?_
    obtain ⟨o_5', h⟩ := h
    refine wv (OV.mul rfl rfl o_5') ?_
    refine wv (OV.move rfl) ?_
    obtain ⟨o_6', h⟩ := h
    refine wv (OV.add rfl rfl o_6') ?_
    obtain ⟨o_7', h⟩ := h
    refine wv (OV.sub rfl rfl o_7') ?_
    obtain ⟨o_8', h⟩ := h
    refine wv (OV.add rfl rfl o_8') ?_
    refine wv (OV.move rfl) ?_
    obtain ⟨o_9', h⟩ := h
    refine wv (OV.add rfl rfl o_9') ?_
    obtain ⟨o_10', h⟩ := h
    refine wv (OV.add rfl rfl o_10') ?_
    refine wv (OV.assign rfl) ?_
    refine WL.nil ?_
    refine KX.go (hK_10' [(6, zI ((((((m * a) + m) - 1) + 1) + a) + 1))] _ ?_) ⟨rfl, trivial⟩
    refine wc_ret ?_
    exact hE.ret [] rfl rfl (.inl ⟨_, h, rfl⟩) (ResV.of1 rfl (RV.tmp rfl))
   ·replace h := if_F h hb
    refine wc_skip ?_
    refine KX.go (hK_8' [(0, zI a), (1, zI m), (2, zI n)] _ ?_) ⟨rfl, rfl, rfl, trivial⟩
    refine wc_seq (fun K0_11' hK_11' => ?_)
    refine wc_seq (fun K0_12' hK_12' => ?_)
    refine wc_region ?_
    refine wv (OV.move rfl) ?_
    refine wv (OV.eql rfl rfl) ?_
    refine WL.nil ?_
    refine KX.go (hK_12' [(0, zI a), (1, zI m), (2, zI n), (35, zB (decide (n = 0)))] _ ?_) ⟨rfl, rfl, rfl, rfl, trivial⟩
    refine wc_cond (b := decide (n = 0)) rfl (fun hb => ?_) (fun hb => ?_)
    ·replace h := if_T h hb
     refine wc_seq (fun K0_13' hK_13' => ?_)
     refine wc_region ?_
     refine wv (OV.assign rfl) ?_
     refine WL.nil ?_
     refine KX.go (hK_13' [(6, zI 1)] _ ?_) ⟨rfl, trivial⟩
     refine wc_ret ?_
     exact hE.ret [] rfl rfl (.inl ⟨_, h, rfl⟩) (ResV.of1 rfl (RV.tmp rfl))
    ·replace h := if_F h hb
     refine wc_skip ?_
     refine KX.go (hK_11' [(0, zI a), (1, zI m), (2, zI n)] _ ?_) ⟨rfl, rfl, rfl, trivial⟩
     refine wc_seq (fun K0_14' hK_14' => ?_)
     refine wc_seq (fun K0_15' hK_15' => ?_)
     refine wc_region ?_
     refine wv (OV.move rfl) ?_
     refine wv (OV.eql rfl rfl) ?_
     refine WL.nil ?_
     refine KX.go (hK_15' [(0, zI a), (1, zI m), (2, zI n), (37, zB (decide (m = 0)))] _ ?_) ⟨rfl, rfl, rfl, rfl, trivial⟩
     refine wc_cond (b := decide (m = 0)) rfl (fun hb => ?_) (fun hb => ?_)
     ·replace h := if_T h hb
      refine wc_seq (fun K0_16' hK_16' => ?_)
      refine wc_region ?_
      refine wv (OV.move rfl) ?_
      refine wv (OV.move rfl) ?_
      obtain ⟨o_11', h⟩ := h
      refine wv (OV.add rfl rfl o_11') ?_
      obtain ⟨o_12', h⟩ := h
      refine wv (OV.mul rfl rfl o_12') ?_
      refine wv (OV.move rfl) ?_
      obtain ⟨o_13', h⟩ := h
      refine wv (OV.add rfl rfl o_13') ?_
      obtain ⟨o_14', h⟩ := h
      refine wv (OV.sub rfl rfl o_14') ?_
      refine wv (OV.assign rfl) ?_
      refine WL.nil ?_
      refine KX.go (hK_16' [(6, zI (((n * (a + 2)) + n) - 1))] _ ?_) ⟨rfl, trivial⟩
      refine wc_ret ?_
      exact hE.ret [] rfl rfl (.inl ⟨_, h, rfl⟩) (ResV.of1 rfl (RV.tmp rfl))
     ·replace h := if_F h hb
      refine wc_skip ?_
      refine KX.go (hK_14' [(0, zI a), (1, zI m), (2, zI n)] _ ?_) ⟨rfl, rfl, rfl, trivial⟩
      refine wc_seq (fun K0_17' hK_17' => ?_)
      refine wc_region ?_
      refine wv (OV.move rfl) ?_
      refine wv (OV.move rfl) ?_
      obtain ⟨o_15', h⟩ := h
      refine wv (OV.mul rfl rfl o_15') ?_
      refine wv (OV.move rfl) ?_
      obtain ⟨o_16', h⟩ := h
      refine wv (OV.add rfl rfl o_16') ?_
      obtain ⟨o_17', h⟩ := h
      refine wv (OV.sub rfl rfl o_17') ?_
      refine wv (OV.move rfl) ?_
      refine wv (OV.move rfl) ?_
      obtain ⟨o_18', h⟩ := h
      refine wv (OV.sub rfl rfl o_18') ?_
      refine wv (OV.move rfl) ?_
      obtain ⟨o_19', h⟩ := h
      refine wv (OV.add rfl rfl o_19') ?_
      obtain ⟨o_20', h⟩ := h
      refine wv (OV.add rfl rfl o_20') ?_
      obtain ⟨o_21', h⟩ := h
      refine wv (OV.mul rfl rfl o_21') ?_
      obtain ⟨o_22', h⟩ := h
      refine wv (OV.add rfl rfl o_22') ?_
      refine wv (OV.assign rfl) ?_
      refine WL.nil ?_
      refine KX.go (hK_17' [(6, zI ((((m * a) + m) - 1) + ((n - m) * ((a + 2) + 1))))] _ ?_) ⟨rfl, trivial⟩
      refine wc_ret ?_
      exact hE.ret [] rfl rfl (.inl ⟨_, h, rfl⟩) (ResV.of1 rfl (RV.tmp rfl))

def postB (c : Int) : Bool := (((decide (c = 42)) || (decide (c = 43))) || (decide (c = 63))) || (decide (c = 123))
theorem postfix_does (c : Int) : Does Tryd.prog 43 [.int .u8 c] [] [] (Ret (.bool (postB c)) []) := Does.one (postfix_wp c (fun v => v = postB c) rfl)
theorem ropen_does (p : Int) : Does Tryd.prog 42 [.int .i64 p] [] [] (Ret (.agg [.int .i64 p, .int .i64 (-1), .int .i64 (-1), .int .u8 0, .int .i64 (-1), .int .i64 (-1)].toArray) []) := by
 refine (ropen_wp p (fun a b c d e f => a = p ∧ b = -1 ∧ c = -1 ∧ d = 0 ∧ e = -1 ∧ f = -1) ⟨rfl, rfl, rfl, rfl, rfl, rfl⟩).weak ?_
 rintro o (⟨a, b, c, d, e, f, ⟨rfl, rfl, rfl, rfl, rfl, rfl⟩, rfl⟩ | h)
 ·rfl
 ·exact h.elim
def digitB (t : List UInt8) (i : Int) : Bool := ((decide (i < (t.length : Int))) && (decide (48 ≤ nx t i))) && (decide (nx t i ≤ 57))
theorem digit_does (t : List UInt8) (i : Int) (h : 0 ≤ i) : Does Tryd.prog 80 [st t, .int .i64 i] [] [] (Ret (.bool (digitB t i)) []) :=
 Does.one (digit_wp t i (fun v => v = digitB t i) ⟨fun h1 => ⟨h, by simpa using h1⟩, fun h1 => ⟨h, by simp at h1; omega⟩, rfl⟩)
/-- The size of a repeat over a tree of size a. -/
def timesN (a m n : Int) : Int := if m = -2 then ((a + 1) + a) + 1 else if n < 0 ∧ m = 0 then a + 1 else if n < 0 then (((((m * a) + m) - 1) + 1) + a) + 1 else if n = 0 then 1 else if m = 0 then ((n * (a + 2)) + n) - 1 else (((m * a) + m) - 1) + ((n - m) * ((a + 2) + 1))
def TimesB (a m n : Int) : Prop := 0 ≤ a ∧ a ≤ 2001 ∧ RepB m n
theorem mul_bd {x y X : Int} (h0 : 0 ≤ y) (h1 : -X ≤ x) (h2 : x ≤ X) : -(X * y) ≤ x * y ∧ x * y ≤ X * y := by
 have a1 := Int.mul_nonneg (show 0 ≤ x + X by omega) h0
 have a2 := Int.mul_nonneg (show 0 ≤ X - x by omega) h0
 rw [Int.add_mul] at a1
 rw [Int.sub_mul] at a2
 omega
theorem rtimes_does (a m n : Int) (h : TimesB a m n) : Does Tryd.prog 83 [.int .i64 a, .int .i64 m, .int .i64 n] [] [] (Ret (.int .i64 (timesN a m n)) []) :=
 Does.one (rtimes_wp a m n (fun v => v = timesN a m n) (by
  obtain ⟨h0, h1, hb⟩ := h
  unfold RepB at hb
  have e1 := mul_bd (x := m) (y := a) (X := 300) h0 (by omega) (by omega)
  have e2 := mul_bd (x := n) (y := a + 2) (X := 300) (by omega) (by omega) (by omega)
  have e3 := mul_bd (x := n - m) (y := a + 2 + 1) (X := 300) (by omega) (by omega) (by omega)
  unfold rtimes_vc timesN I64
  by_cases c1 : m = -2
  ·rw [if_pos (by simpa using c1), if_pos c1]; exact ⟨by omega, by omega, by omega, rfl⟩
  rw [if_neg (by simpa using c1), if_neg c1]
  by_cases c2 : n < 0 ∧ m = 0
  ·rw [if_pos (by simpa using c2), if_pos c2]; exact ⟨by omega, rfl⟩
  rw [if_neg (by simpa using c2), if_neg c2]
  by_cases c3 : n < 0
  ·rw [if_pos (by simpa using c3), if_pos c3]; exact ⟨by omega, by omega, by omega, by omega, by omega, by omega, rfl⟩
  rw [if_neg (by simpa using c3), if_neg c3]
  by_cases c4 : n = 0
  ·rw [if_pos (by simpa using c4), if_pos c4]
  rw [if_neg (by simpa using c4), if_neg c4]
  by_cases c5 : m = 0
  ·rw [if_pos (by simpa using c5), if_pos c5]; exact ⟨by omega, by omega, by omega, by omega, rfl⟩
  ·rw [if_neg (by simpa using c5), if_neg c5]; exact ⟨by omega, by omega, by omega, by omega, by omega, by omega, by omega, by omega, rfl⟩))
theorem catN_size (y : Tr) : ∀ (k : Nat) (x : Tr), (catN x y k).size = x.size + k * (1 + y.size)
 | 0, x => by simp [catN]
 | k + 1, x => by rw [catN, catN_size y k, Tr.size, Nat.add_mul, Nat.one_mul]; omega
theorem timesN_size {x : Tr} {m n : Int} (hb : RepB m n) : timesN x.size m n = ((repT x m n).size : Int) := by
 unfold RepB at hb
 unfold timesN repT
 by_cases c1 : m = -2
 ·rw [if_pos c1, if_pos c1]
  simp only [timesT]
  rw [if_neg (by omega), if_neg (by omega), if_pos (by omega), if_neg (by omega)]
  simp only [catN, Tr.size, show ((1 : Int) - 1).toNat = 0 from rfl]
  omega
 rw [if_neg c1, if_neg c1]
 unfold timesT
 by_cases c2 : n < 0 ∧ m = 0
 ·rw [if_pos c2, if_pos ⟨c2.2, c2.1⟩]; simp only [Tr.size]; omega
 rw [if_neg c2, if_neg (show ¬ (m = 0 ∧ n < 0) from fun h => c2 ⟨h.2, h.1⟩)]
 by_cases c3 : n < 0
 ·rw [if_pos c3, if_neg (show ¬ (m = 0 ∧ n = 0) by omega), if_pos c3, if_neg (show ¬ m = 0 by omega)]
  simp only [Tr.size, catN_size]
  obtain ⟨k, rfl⟩ : ∃ k : Nat, m = (k : Int) + 1 := ⟨(m - 1).toNat, by omega⟩
  rw [show ((k : Int) + 1 - 1).toNat = k by omega]
  push_cast
  rw [Int.add_mul, Int.mul_add]
  omega
 rw [if_neg c3]
 by_cases c4 : n = 0
 ·rw [if_pos c4, if_pos (show m = 0 ∧ n = 0 by omega)]; rfl
 rw [if_neg c4, if_neg (show ¬ (m = 0 ∧ n = 0) by omega), if_neg c3]
 by_cases c5 : m = 0
 ·rw [if_pos c5, if_pos c5]
  subst c5
  obtain ⟨k, rfl⟩ : ∃ k : Nat, n = (k : Int) + 1 := ⟨(n - 1).toNat, by omega⟩
  simp only [catN_size, Tr.size]
  rw [show ((0 : Int) - 1).toNat = 0 by omega, show ((k : Int) + 1 - max 0 1).toNat = k by omega]
  push_cast
  simp only [Int.add_mul, Int.mul_add]
  omega
 ·rw [if_neg c5, if_neg c5]
  obtain ⟨k, rfl⟩ : ∃ k : Nat, m = (k : Int) + 1 := ⟨(m - 1).toNat, by omega⟩
  obtain ⟨q, hq⟩ : ∃ q : Nat, n = (k : Int) + 1 + q := ⟨(n - (k + 1)).toNat, by omega⟩
  subst hq
  simp only [catN_size, Tr.size]
  rw [show ((k : Int) + 1 - 1).toNat = k by omega, show ((k : Int) + 1 + q - max ((k : Int) + 1) 1).toNat = q by omega, show (k : Int) + 1 + q - (k + 1) = q by omega]
  push_cast
  simp only [Int.add_mul, Int.mul_add]
  omega
theorem timesN_ge {a m n : Int} (h0 : 0 ≤ a) (hb : RepB m n) (h : ¬ (m = 0 ∧ n = 0)) : a ≤ timesN a m n := by
 unfold RepB at hb
 unfold timesN
 by_cases c1 : m = -2
 ·rw [if_pos c1]; omega
 rw [if_neg c1]
 by_cases c2 : n < 0 ∧ m = 0
 ·rw [if_pos c2]; omega
 rw [if_neg c2]
 by_cases c3 : n < 0
 ·rw [if_pos c3]
  have := Int.mul_nonneg (show 0 ≤ m by omega) h0
  omega
 rw [if_neg c3, if_neg (by omega)]
 by_cases c5 : m = 0
 ·rw [if_pos c5]
  have := Int.mul_nonneg (show 0 ≤ n - 1 by omega) (show 0 ≤ a + 2 by omega)
  rw [Int.sub_mul] at this
  omega
 ·rw [if_neg c5]
  have h1 := Int.mul_nonneg (show 0 ≤ m - 1 by omega) h0
  have h2 := Int.mul_nonneg (show 0 ≤ n - m by omega) (show 0 ≤ a + 2 + 1 by omega)
  rw [Int.sub_mul] at h1
  omega
theorem times_cut {x : Tr} {m n : Int} (hb : RepB m n) : min (timesN (min (x.size : Int) 2001) m n) 2001 = min ((repT x m n).size : Int) 2001 := by
 rw [← timesN_size hb]
 by_cases hs : (x.size : Int) ≤ 2001
 ·rw [Int.min_eq_left hs]
 ·rw [Int.min_eq_right (show (2001 : Int) ≤ x.size by omega)]
  by_cases hz : m = 0 ∧ n = 0
  ·obtain ⟨rfl, rfl⟩ := hz; simp [timesN]
  ·have h1 := timesN_ge (a := 2001) (by omega) hb hz
   have h2 := timesN_ge (a := (x.size : Int)) (by omega) hb hz
   omega
/-- The numbers of a repeat, with the place behind it. -/
def bracesN (t : List UInt8) (from_ : Int) : Except (Int × Int) (Int × Int × Int) :=
 match numM t (from_ + 1) with
 | .error e => .error e
 | .ok (m, j) =>
  match comB t m j with
  | .error e => .error e
  | .ok (n, k) =>
   if k < t.length ∧ nx t k = 125 then (if m > 255 ∨ n > 255 ∨ (0 ≤ n ∧ n < m) then .error (22, from_) else .ok (m, n, k + 1)) else .error (20, k)
theorem bracesM_N (t : List UInt8) (x : Tr) (i : Int) : bracesM t x i = match bracesN t i with
  | .error e => .error e
  | .ok (m, n, k) => .ok (timesT x m n, k) := by
 unfold bracesM bracesN
 cases numM t (i + 1) with
 | error e => rfl
 | ok p =>
  obtain ⟨m, j⟩ := p
  simp only
  cases comB t m j with
  | error e => rfl
  | ok q =>
   obtain ⟨n, k⟩ := q
   simp only
   split
   ·split <;> rfl
   ·rfl
theorem numM_bd {t : List UInt8} {j m k : Int} (h : numM t j = .ok (m, k)) : 0 ≤ m := by
 unfold numM at h
 split at h
 ·cases h
 ·have key : ∀ (f : Nat) (n j : Int), 0 ≤ n → 0 ≤ (numF t f n j).1 := by
   intro f
   induction f with
   | zero => intro n j hn; exact hn
   | succ f ih =>
    intro n j hn
    unfold numF
    split
    ·rename_i hc
     have hd := hc.2
     simp only [digB, Bool.and_eq_true, decide_eq_true_eq] at hd
     exact ih _ _ (by omega)
    ·exact hn
  have h2 : numF t 3 0 j = (m, k) := by injection h
  have := key 3 0 j (by omega)
  rw [h2] at this; exact this
theorem bracesN_ok {t : List UInt8} {i m n k : Int} (h : bracesN t i = .ok (m, n, k)) : RepB m n := by
 unfold bracesN at h
 split at h
 ·cases h
 ·rename_i m' j hm
  have h1 := numM_bd hm
  split at h
  ·cases h
  ·rename_i n' k' hc
   split at h
   ·split at h
    ·cases h
    ·rename_i hz
     simp only [Except.ok.injEq, Prod.mk.injEq] at h
     have h2 : -1 ≤ n' := by
      unfold comB at hc
      split at hc
      ·split at hc
       ·simp only [Except.ok.injEq, Prod.mk.injEq] at hc; omega
       ·have := numM_bd hc; omega
      ·simp only [Except.ok.injEq, Prod.mk.injEq] at hc; omega
     unfold RepB; omega
   ·cases h
def BrR (t : List UInt8) (i m n k e p : Int) : Prop := (e = 0 ∧ bracesN t i = .ok (m, n, k)) ∨ (0 < e ∧ bracesN t i = .error (e, p))

def rbraces_vc (text : List UInt8) (from0 : Int) (K : Int → Int → Int → Int → Int → Prop) : Prop :=
 (I64 (from0 + 1)) ∧
 ∃ (J0 : Int → Int → (Nat → Int) → Prop),
  (∀ (i_8' : Int) (got_2' : Int) (v_8' : Nat → Int), J0 i_8' got_2' v_8' →
   ∃ (J0_1' : (Nat → Int) → Prop),
    (∀ (v_9' : Nat → Int), J0_1' v_9' →
     ((decide ((text.length : Int) ≤ i_8')) = false → (0 ≤ i_8' ∧ i_8' < text.length)) ∧
     (if ((decide ((text.length : Int) ≤ i_8')) || (!decide (((text.getD i_8'.toNat 0).toNat : Int) = 125))) = true then
      K 0 0 0 20 i_8'
     else
      (if (((decide (255 < v_9' 0)) || (decide (255 < v_9' 1))) || ((decide (0 ≤ v_9' 1)) && (decide (v_9' 1 < v_9' 0)))) = true then
       K 0 0 0 22 from0
      else
       (I64 (i_8' + 1)) ∧
       K (v_9' 0) (v_9' 1) (i_8' + 1) 0 0))) ∧
    (if (decide (got_2' = 1)) = true then
     J0_1' (fun j => if j = 1 then v_8' 0 else v_8' j)
    else
     J0_1' v_8')) ∧
  ∃ (Inv_6' : Int → Int → (Nat → Int) → Prop) (mu_6' : Int → Int → (Nat → Int) → Nat),
   Inv_6' (from0 + 1) 0 (fun _ => 0) ∧ ∀ (i_14' : Int) (got_4' : Int) (v_15' : Nat → Int), Inv_6' i_14' got_4' v_15' →
    (if (decide (got_4' < 2)) = true then
     (0 ≤ i_14') ∧
     (if (!(digitB text i_14')) = true then
      K 0 0 0 20 i_14'
     else
      ∃ (Inv_7' : Int → Int → (Nat → Int) → Prop) (mu_7' : Int → Int → (Nat → Int) → Nat),
       Inv_7' i_14' 0 v_15' ∧ ∀ (i_16' : Int) (k_11' : Int) (v_17' : Nat → Int), Inv_7' i_16' k_11' v_17' →
        ((decide (k_11' < 3)) = true → (0 ≤ i_16')) ∧
        (if ((decide (k_11' < 3)) && (digitB text i_16')) = true then
         (0 ≤ got_4' ∧ got_4' < 2) ∧
         (I64 (10 * (v_17' ((got_4').toNat)))) ∧
         (0 ≤ i_16' ∧ i_16' < text.length) ∧
         (I64 (IntKind.wrap .u8 (((text.getD i_16'.toNat 0).toNat : Int) - 48))) ∧
         (I64 ((10 * (v_17' ((got_4').toNat))) + (IntKind.wrap .u8 (((text.getD i_16'.toNat 0).toNat : Int) - 48)))) ∧
         (0 ≤ got_4' ∧ got_4' < 2) ∧
         (I64 (i_16' + 1)) ∧
         (I64 (k_11' + 1)) ∧
         Inv_7' (i_16' + 1) (k_11' + 1) (fun j => if j = (got_4').toNat then (10 * (v_17' ((got_4').toNat))) + (IntKind.wrap .u8 (((text.getD i_16'.toNat 0).toNat : Int) - 48)) else v_17' j) ∧ mu_7' (i_16' + 1) (k_11' + 1) (fun j => if j = (got_4').toNat then (10 * (v_17' ((got_4').toNat))) + (IntKind.wrap .u8 (((text.getD i_16'.toNat 0).toNat : Int) - 48)) else v_17' j) < mu_7' i_16' k_11' v_17'
        else
         (I64 (got_4' + 1)) ∧
         (((decide (got_4' + 1 = 2)) || (decide ((text.length : Int) ≤ i_16'))) = false → (0 ≤ i_16' ∧ i_16' < text.length)) ∧
         (if (((decide (got_4' + 1 = 2)) || (decide ((text.length : Int) ≤ i_16'))) || (!decide (((text.getD i_16'.toNat 0).toNat : Int) = 44))) = true then
          J0 i_16' (got_4' + 1) v_17'
         else
          (I64 (i_16' + 1)) ∧
          ((decide (i_16' + 1 < (text.length : Int))) = true → (0 ≤ (i_16' + 1) ∧ (i_16' + 1) < text.length)) ∧
          (if ((decide (i_16' + 1 < (text.length : Int))) && (decide (((text.getD (i_16' + 1).toNat 0).toNat : Int) = 125))) = true then
           Inv_6' (i_16' + 1) 2 (fun j => if j = 1 then (-1) else v_17' j) ∧ mu_6' (i_16' + 1) 2 (fun j => if j = 1 then (-1) else v_17' j) < mu_6' i_14' got_4' v_15'
          else
           Inv_6' (i_16' + 1) (got_4' + 1) v_17' ∧ mu_6' (i_16' + 1) (got_4' + 1) v_17' < mu_6' i_14' got_4' v_15'))))
    else
     J0 i_14' got_4' v_15')
set_option maxRecDepth 100000 in
theorem rbraces_wp  (text : List UInt8) (from0 : Int) (K : Int → Int → Int → Int → Int → Prop) (h : rbraces_vc text from0 K) :
  Does Tryd.prog 44 [st text, zI from0] [] [] (fun o => (∃ (v_18' : Int) (v_19' : Int) (v_20' : Int) (v_21' : Int) (v_22' : Int), K v_18' v_19' v_20' v_21' v_22' ∧ o = .ret (Value.tuple #[zI v_18', zI v_19', zI v_20', zI v_21', zI v_22']) []) ∨ (False)) := by
 unfold rbraces_vc at h
 refine does_of_wc (n := 117) (L0 := [(0, st text), (1, zI from0)]) Tryd.func44 rfl rfl rfl rfl (fun w0 M Q hE => ?_)
 refine wc_seq (fun K0 hK => ?_)
 refine wc_region ?_
 refine wv (OV.assign rfl) ?_
 refine wv (OV.assign rfl) ?_
 refine wv (OV.assign rfl) ?_
 refine wv (OV.assign rfl) ?_
 refine wv (OV.assign rfl) ?_
 refine WL.nil ?_
 refine KX.go (hK [(0, st text), (1, zI from0)] _ ?_) ⟨rfl, rfl, trivial⟩
 refine wc_seq (fun K0_1' hK_1' => ?_)
 refine wc_region ?_
 refine wv (OV.move rfl) ?_
 obtain ⟨o, h⟩ := h
 refine wv (OV.add rfl rfl o) ?_
 refine wv (OV.assign rfl) ?_
 refine WL.nil ?_
 refine KX.go (hK_1' [(0, st text), (1, zI from0), (9, zI (from0 + 1))] _ ?_) ⟨rfl, rfl, rfl, trivial⟩
 refine wc_seq (fun K0_2' hK_2' => ?_)
 refine wc_region ?_
 refine WL.make (MV.alloc tf_zero_169a) rfl rfl rfl (fun b => ?_)
 refine WL.nil ?_
 refine KX.go (hK_2' [(0, st text), (1, zI from0), (9, zI (from0 + 1)), (10, zP b)] _ ?_) ⟨rfl, rfl, rfl, rfl, trivial⟩
 refine wc_seq (fun K0_3' hK_3' => ?_)
 refine wc_region ?_
 refine wv (OV.assign rfl) ?_
 refine WL.nil ?_
 refine KX.go (hK_3' [(0, st text), (1, zI from0), (9, zI (from0 + 1)), (10, zP b), (11, zI 0)] _ ?_) ⟨rfl, rfl, rfl, rfl, rfl, trivial⟩
 obtain ⟨J0, hJ, h⟩ := h
 refine wc_seqJ (X := Int × Int × (Nat → Int)) (fun σ => J0 σ.1 σ.2.1 σ.2.2) (fun σ => [(0, st text), (1, zI from0), (9, zI σ.1), (10, zP b), (11, zI σ.2.1)]) (fun σ => [HA.blk b (.cells (arr 2 (fun j => zI (σ.2.2 j))).toArray 169 (0, 0))]) ?_ (fun K0_97' hK_97' => ?_)
 ·rintro ⟨i_8', got_2', v_8'⟩ hj
  replace h := hJ i_8' got_2' v_8' hj
  show WC _ _ _ _ [(0, st text), (1, zI from0), (9, zI i_8'), (10, zP b), (11, zI got_2')] [HA.blk b (.cells (arr 2 (fun j => zI (v_8' j))).toArray 169 (0, 0))]
  obtain ⟨J0_1', hJ_1', h⟩ := h
  refine wc_seqJ (X := (Nat → Int)) (fun σ => J0_1' σ) (fun σ => [(0, st text), (1, zI from0), (9, zI i_8'), (10, zP b)]) (fun σ => [HA.blk b (.cells (arr 2 (fun j => zI (σ j))).toArray 169 (0, 0))]) ?_ (fun K0_99' hK_99' => ?_)
  ·rintro v_9' hj
   replace h := hJ_1' v_9' hj
   show WC _ _ _ _ [(0, st text), (1, zI from0), (9, zI i_8'), (10, zP b)] [HA.blk b (.cells (arr 2 (fun j => zI (v_9' j))).toArray 169 (0, 0))]
   refine wc_seq (fun K0_100' hK_100' => ?_)
   refine wc_seq (fun K0_101' hK_101' => ?_)
   refine wc_region ?_
   refine wv (OV.move rfl) ?_
   refine wv (OV.move rfl) ?_
   refine wv (OV.len rfl tf_str_9) ?_
   refine wv (OV.geq rfl rfl) ?_
   refine wv (OV.move rfl) ?_
   obtain ⟨o_102', h⟩ := h
   refine WL.cut 5 [(1, zI from0), (9, zI i_8'), (10, zP b), (88, zB ((decide ((text.length : Int) ≤ i_8')) || (!decide (((text.getD i_8'.toNat 0).toNat : Int) = 125))))] ?_ (fun K0_102' hK_102' => ?_)
   rotate_left
   ·refine WL.split (decide ((text.length : Int) ≤ i_8')) (fun hb => ?_) (fun hb => ?_)
    ·refine WL.set 83 rfl (congrArg zB hb) ?_
     refine WL.skip rfl rfl rfl ?_
     refine WL.skip rfl rfl rfl ?_
     refine WL.skip rfl rfl rfl ?_
     refine WL.skip rfl rfl rfl ?_
     refine wv (OV.pickT rfl rfl) ?_
     refine WL.set 88 rfl (oT (v := !decide (((text.getD i_8'.toNat 0).toNat : Int) = 125)) hb) ?_
     exact WL.end_ (KX.go hK_102' ⟨rfl, rfl, rfl, rfl, trivial⟩)
    ·have o_101' := o_102' hb
     refine WL.set 83 rfl (congrArg zB hb) ?_
     refine wv (OV.move rfl) ?_
     refine wv (OV.move rfl) ?_
     refine wv (OV.index rfl rfl tf_str_9 o_101') ?_
     refine wv (OV.neq rfl rfl) ?_
     refine wv (OV.pickF rfl rfl) ?_
     refine WL.set 88 rfl (oF (v := !decide (((text.getD i_8'.toNat 0).toNat : Int) = 125)) hb) ?_
     exact WL.end_ (KX.go hK_102' ⟨rfl, rfl, rfl, rfl, trivial⟩)
   refine WL.nil ?_
   refine KX.go (hK_101' [(1, zI from0), (9, zI i_8'), (10, zP b), (88, zB ((decide ((text.length : Int) ≤ i_8')) || (!decide (((text.getD i_8'.toNat 0).toNat : Int) = 125))))] _ ?_) ⟨rfl, rfl, rfl, rfl, trivial⟩
   refine wc_cond (b := (decide ((text.length : Int) ≤ i_8')) || (!decide (((text.getD i_8'.toNat 0).toNat : Int) = 125))) rfl (fun hb => ?_) (fun hb => ?_)
   ·replace h := if_T h hb
    refine wc_seq (fun K0_103' hK_103' => ?_)
    refine wc_region ?_
    refine wv (OV.move rfl) ?_
    refine wv (OV.assign rfl) ?_
    refine wv (OV.assign rfl) ?_
    refine wv (OV.assign rfl) ?_
    refine wv (OV.assign rfl) ?_
    refine wv (OV.assign rfl) ?_
    refine WL.nil ?_
    refine KX.go (hK_103' [(4, zI 0), (5, zI 0), (6, zI 0), (7, zI 20), (8, zI i_8')] _ ?_) ⟨rfl, rfl, rfl, rfl, rfl, trivial⟩
    refine wc_ret ?_
    exact hE.ret [] rfl rfl (.inl ⟨_, _, _, _, _, h, rfl⟩) (ResV.of5 rfl (RV.tmp rfl) (RV.tmp rfl) (RV.tmp rfl) (RV.tmp rfl) (RV.tmp rfl))
   ·replace h := if_F h hb
    refine wc_skip ?_
    refine KX.go (hK_100' [(1, zI from0), (9, zI i_8'), (10, zP b)] _ ?_) ⟨rfl, rfl, rfl, trivial⟩
    refine wc_seq (fun K0_104' hK_104' => ?_)
    refine wc_seq (fun K0_105' hK_105' => ?_)
    refine wc_region ?_
    refine wv (OV.indexAddr rfl rfl tf_arr_169 (by decide) rfl) ?_
    refine wv (OV.load rfl (At.own 0 rfl) (arr_get (by decide)) tf_scal_3) ?_
    refine wv (OV.gtr rfl rfl) ?_
    refine wv (OV.move rfl) ?_
    refine WL.cut 4 [(1, zI from0), (9, zI i_8'), (10, zP b), (97, zB ((decide (255 < v_9' 0)) || (decide (255 < v_9' 1))))] ?_ (fun K0_106' hK_106' => ?_)
    rotate_left
    ·refine WL.split (decide (255 < v_9' 0)) (fun hb => ?_) (fun hb => ?_)
     ·refine WL.set 93 rfl (congrArg zB hb) ?_
      refine WL.skip rfl rfl rfl ?_
      refine WL.skip rfl rfl rfl ?_
      refine WL.skip rfl rfl rfl ?_
      refine wv (OV.pickT rfl rfl) ?_
      refine WL.set 97 rfl (oT (v := decide (255 < v_9' 1)) hb) ?_
      exact WL.end_ (KX.go hK_106' ⟨rfl, rfl, rfl, rfl, trivial⟩)
     ·refine WL.set 93 rfl (congrArg zB hb) ?_
      refine wv (OV.indexAddr rfl rfl tf_arr_169 (by decide) rfl) ?_
      refine wv (OV.load rfl (At.own 0 rfl) (arr_get (by decide)) tf_scal_3) ?_
      refine wv (OV.gtr rfl rfl) ?_
      refine wv (OV.pickF rfl rfl) ?_
      refine WL.set 97 rfl (oF (v := decide (255 < v_9' 1)) hb) ?_
      exact WL.end_ (KX.go hK_106' ⟨rfl, rfl, rfl, rfl, trivial⟩)
    refine wv (OV.move rfl) ?_
    refine WL.cut 11 [(1, zI from0), (9, zI i_8'), (10, zP b), (109, zB (((decide (255 < v_9' 0)) || (decide (255 < v_9' 1))) || ((decide (0 ≤ v_9' 1)) && (decide (v_9' 1 < v_9' 0)))))] ?_ (fun K0_108' hK_108' => ?_)
    rotate_left
    ·refine WL.split ((decide (255 < v_9' 0)) || (decide (255 < v_9' 1))) (fun hb => ?_) (fun hb => ?_)
     ·refine WL.set 98 rfl (congrArg zB hb) ?_
      refine WL.skip rfl rfl rfl ?_
      refine WL.skip rfl rfl rfl ?_
      refine WL.skip rfl rfl rfl ?_
      refine WL.skip rfl rfl rfl ?_
      refine WL.skip rfl rfl rfl ?_
      refine WL.skip rfl rfl rfl ?_
      refine WL.skip rfl rfl rfl ?_
      refine WL.skip rfl rfl rfl ?_
      refine WL.skip rfl rfl rfl ?_
      refine WL.skip rfl rfl rfl ?_
      refine wv (OV.pickT rfl rfl) ?_
      refine WL.set 109 rfl (oT (v := (decide (0 ≤ v_9' 1)) && (decide (v_9' 1 < v_9' 0))) hb) ?_
      exact WL.end_ (KX.go hK_108' ⟨rfl, rfl, rfl, rfl, trivial⟩)
     ·refine WL.set 98 rfl (congrArg zB hb) ?_
      refine wv (OV.indexAddr rfl rfl tf_arr_169 (by decide) rfl) ?_
      refine wv (OV.load rfl (At.own 0 rfl) (arr_get (by decide)) tf_scal_3) ?_
      refine wv (OV.geq rfl rfl) ?_
      refine wv (OV.move rfl) ?_
      refine WL.cut 6 [(1, zI from0), (9, zI i_8'), (10, zP b), (98, zB false), (108, zB ((decide (0 ≤ v_9' 1)) && (decide (v_9' 1 < v_9' 0))))] ?_ (fun K0_107' hK_107' => ?_)
      rotate_left
      ·refine WL.split (decide (0 ≤ v_9' 1)) (fun hb => ?_) (fun hb => ?_)
       ·refine WL.set 102 rfl (congrArg zB hb) ?_
        refine wv (OV.indexAddr rfl rfl tf_arr_169 (by decide) rfl) ?_
        refine wv (OV.load rfl (At.own 0 rfl) (arr_get (by decide)) tf_scal_3) ?_
        refine wv (OV.indexAddr rfl rfl tf_arr_169 (by decide) rfl) ?_
        refine wv (OV.load rfl (At.own 0 rfl) (arr_get (by decide)) tf_scal_3) ?_
        refine wv (OV.lss rfl rfl) ?_
        refine wv (OV.pickT rfl rfl) ?_
        refine WL.set 108 rfl (bT (v := decide (v_9' 1 < v_9' 0)) hb) ?_
        exact WL.end_ (KX.go hK_107' ⟨rfl, rfl, rfl, rfl, rfl, trivial⟩)
       ·refine WL.set 102 rfl (congrArg zB hb) ?_
        refine WL.skip rfl rfl rfl ?_
        refine WL.skip rfl rfl rfl ?_
        refine WL.skip rfl rfl rfl ?_
        refine WL.skip rfl rfl rfl ?_
        refine WL.skip rfl rfl rfl ?_
        refine wv (OV.pickF rfl rfl) ?_
        refine WL.set 108 rfl (bF (v := decide (v_9' 1 < v_9' 0)) hb) ?_
        exact WL.end_ (KX.go hK_107' ⟨rfl, rfl, rfl, rfl, rfl, trivial⟩)
      refine wv (OV.pickF rfl rfl) ?_
      refine WL.set 109 rfl (oF (v := (decide (0 ≤ v_9' 1)) && (decide (v_9' 1 < v_9' 0))) hb) ?_
      exact WL.end_ (KX.go hK_108' ⟨rfl, rfl, rfl, rfl, trivial⟩)
    refine WL.nil ?_
    refine KX.go (hK_105' [(1, zI from0), (9, zI i_8'), (10, zP b), (109, zB (((decide (255 < v_9' 0)) || (decide (255 < v_9' 1))) || ((decide (0 ≤ v_9' 1)) && (decide (v_9' 1 < v_9' 0)))))] _ ?_) ⟨rfl, rfl, rfl, rfl, trivial⟩
    refine wc_cond (b := ((decide (255 < v_9' 0)) || (decide (255 < v_9' 1))) || ((decide (0 ≤ v_9' 1)) && (decide (v_9' 1 < v_9' 0)))) rfl (fun hb => ?_) (fun hb => ?_)
    ·replace h := if_T h hb
     refine wc_seq (fun K0_109' hK_109' => ?_)
     refine wc_region ?_
     refine wv (OV.move rfl) ?_
     refine wv (OV.assign rfl) ?_
     refine wv (OV.assign rfl) ?_
     refine wv (OV.assign rfl) ?_
     refine wv (OV.assign rfl) ?_
     refine wv (OV.assign rfl) ?_
     refine WL.nil ?_
     refine KX.go (hK_109' [(4, zI 0), (5, zI 0), (6, zI 0), (7, zI 22), (8, zI from0)] _ ?_) ⟨rfl, rfl, rfl, rfl, rfl, trivial⟩
     refine wc_ret ?_
     exact hE.ret [] rfl rfl (.inl ⟨_, _, _, _, _, h, rfl⟩) (ResV.of5 rfl (RV.tmp rfl) (RV.tmp rfl) (RV.tmp rfl) (RV.tmp rfl) (RV.tmp rfl))
    ·replace h := if_F h hb
     refine wc_skip ?_
     refine KX.go (hK_104' [(9, zI i_8'), (10, zP b)] _ ?_) ⟨rfl, rfl, trivial⟩
     refine wc_seq (fun K0_110' hK_110' => ?_)
     refine wc_draw 8 [] tf_mixed (by kernel_rfl) rfl (fun T_9' hT_9' => ?_)
     refine FL.val (fun _ => OV.indexAddr rfl rfl tf_arr_169 (by decide) rfl) rfl (fun _ => rfl) rfl rfl ?_
     refine FL.val (fun _ => OV.load rfl (At.own 0 rfl) (arr_get (by decide)) tf_scal_3) rfl (fun _ => rfl) rfl rfl ?_
     refine FL.val (fun _ => OV.indexAddr rfl rfl tf_arr_169 (by decide) rfl) rfl (fun _ => rfl) rfl rfl ?_
     refine FL.val (fun _ => OV.load rfl (At.own 0 rfl) (arr_get (by decide)) tf_scal_3) rfl (fun _ => rfl) rfl rfl ?_
     refine FL.val (fun _ => OV.move rfl) rfl (fun _ => rfl) rfl rfl ?_
     obtain ⟨o_106', h⟩ := h
     refine FL.val (fun _ => OV.add rfl rfl o_106') rfl (fun _ => rfl) rfl rfl ?_
     refine FL.val (fun _ => OV.assign rfl) rfl (fun _ => rfl) rfl rfl ?_
     refine FL.val (fun _ => OV.assign rfl) rfl (fun _ => rfl) rfl rfl ?_
     refine FL.weak (L' := fun γ => [(4, zI (v_9' 0)), (5, zI (v_9' 1)), (116, zI (i_8' + 1))]) (fun γ => ⟨rfl, rfl, rfl, trivial⟩) (FL.nil (hT_9' (fun γ => [(4, zI (v_9' 0)), (5, zI (v_9' 1)), (116, zI (i_8' + 1))]) (fun γ => ?_)))
     refine wv (OV.assign rfl) ?_
     refine wv (OV.assign rfl) ?_
     refine wv (OV.assign rfl) ?_
     refine WL.nil ?_
     refine KX.go (hK_110' [(4, zI (v_9' 0)), (5, zI (v_9' 1)), (6, zI (i_8' + 1)), (7, zI 0), (8, zI 0)] _ ?_) ⟨rfl, rfl, rfl, rfl, rfl, trivial⟩
     refine wc_ret ?_
     exact hE.ret [] rfl rfl (.inl ⟨_, _, _, _, _, h, rfl⟩) (ResV.of5 rfl (RV.tmp rfl) (RV.tmp rfl) (RV.tmp rfl) (RV.tmp rfl) (RV.tmp rfl))
  ·skip
   refine wc_seq (fun K0_111' hK_111' => ?_)
   refine wc_region ?_
   refine wv (OV.move rfl) ?_
   refine wv (OV.eql rfl rfl) ?_
   refine WL.nil ?_
   refine KX.go (hK_111' [(0, st text), (1, zI from0), (9, zI i_8'), (10, zP b), (75, zB (decide (got_2' = 1)))] _ ?_) ⟨rfl, rfl, rfl, rfl, rfl, trivial⟩
   refine wc_cond (b := decide (got_2' = 1)) rfl (fun hb => ?_) (fun hb => ?_)
   ·replace h := if_T h hb
    refine wc_region ?_
    refine wv (OV.indexAddr rfl rfl tf_arr_169 (by decide) rfl) ?_
    refine wv (OV.load rfl (At.own 0 rfl) (arr_get (by decide)) tf_scal_3) ?_
    refine wv (OV.indexAddr rfl rfl tf_arr_169 (by decide) rfl) ?_
    refine WL.storeA' (f' := fun j => zI (if j = 1 then v_8' 0 else v_8' j)) 0 rfl rfl rfl rfl tf_size_3 (by first | decide | omega) rfl rfl (fun j => by by_cases hj : j = 1 <;> simp [hj]) ?_
    refine WL.nil ?_
    exact KX.goH (hK_99' (fun j => if j = 1 then v_8' 0 else v_8' j) h) ⟨rfl, rfl, rfl, rfl, trivial⟩ [0] rfl rfl
   ·replace h := if_F h hb
    refine wc_skip ?_
    exact KX.goH (hK_99' v_8' h) ⟨rfl, rfl, rfl, rfl, trivial⟩ [0] rfl rfl
 ·skip
  refine wc_block ?_
  obtain ⟨Inv_6', mu_6', h0_6', hr_6'⟩ := h
  refine wc_loop (S := Int × Int × (Nat → Int)) (fun σ => Inv_6' σ.1 σ.2.1 σ.2.2) (fun σ => mu_6' σ.1 σ.2.1 σ.2.2) (fun σ => [(0, st text), (1, zI from0), (9, zI σ.1), (10, zP b), (11, zI σ.2.1)]) (fun σ => [HA.blk b (.cells (arr 2 (fun j => zI (σ.2.2 j))).toArray 169 (0, 0))]) (from0 + 1, 0, fun _ => 0) h0_6' ⟨rfl, rfl, rfl, rfl, rfl, trivial⟩ rfl ?_
  rintro ⟨i_14', got_4', v_15'⟩ hi K0_173' hK_173'
  have h := hr_6' i_14' got_4' v_15' hi
  show WC _ _ _ _ [(0, st text), (1, zI from0), (9, zI i_14'), (10, zP b), (11, zI got_4')] [HA.blk b (.cells (arr 2 (fun j => zI (v_15' j))).toArray 169 (0, 0))]
  refine wc_seq (fun K0_174' hK_174' => ?_)
  refine wc_seq (fun K0_175' hK_175' => ?_)
  refine wc_region ?_
  refine wv (OV.move rfl) ?_
  refine wv (OV.lss rfl rfl) ?_
  refine WL.nil ?_
  refine KX.go (hK_175' [(0, st text), (1, zI from0), (9, zI i_14'), (10, zP b), (11, zI got_4'), (16, zB (decide (got_4' < 2)))] _ ?_) ⟨rfl, rfl, rfl, rfl, rfl, rfl, trivial⟩
  refine wc_cond (b := decide (got_4' < 2)) rfl (fun hb => ?_) (fun hb => ?_)
  ·replace h := if_T h hb
   refine wc_skip ?_
   refine KX.go (hK_174' [(0, st text), (1, zI from0), (9, zI i_14'), (10, zP b), (11, zI got_4')] _ ?_) ⟨rfl, rfl, rfl, rfl, rfl, trivial⟩
   refine wc_block ?_
   refine wc_seq (fun K0_176' hK_176' => ?_)
   refine wc_seq (fun K0_177' hK_177' => ?_)
   refine wc_region ?_
   refine wv (OV.move rfl) ?_
   refine wv (OV.move rfl) ?_
   obtain ⟨o_171', h⟩ := h
   refine WL.call (A := []) tf_ent_80 rfl (digit_does text i_14' o_171') rfl trivial rfl rfl ?_
   refine wv (OV.not rfl) ?_
   refine WL.nil ?_
   refine KX.go (hK_177' [(0, st text), (1, zI from0), (9, zI i_14'), (10, zP b), (11, zI got_4'), (20, zB (!(digitB text i_14')))] _ ?_) ⟨rfl, rfl, rfl, rfl, rfl, rfl, trivial⟩
   refine wc_cond (b := !(digitB text i_14')) rfl (fun hb => ?_) (fun hb => ?_)
   ·replace h := if_T h hb
    refine wc_seq (fun K0_178' hK_178' => ?_)
    refine wc_region ?_
    refine wv (OV.move rfl) ?_
    refine wv (OV.assign rfl) ?_
    refine wv (OV.assign rfl) ?_
    refine wv (OV.assign rfl) ?_
    refine wv (OV.assign rfl) ?_
    refine wv (OV.assign rfl) ?_
    refine WL.nil ?_
    refine KX.go (hK_178' [(4, zI 0), (5, zI 0), (6, zI 0), (7, zI 20), (8, zI i_14')] _ ?_) ⟨rfl, rfl, rfl, rfl, rfl, trivial⟩
    refine wc_ret ?_
    exact hE.ret [] rfl rfl (.inl ⟨_, _, _, _, _, h, rfl⟩) (ResV.of5 rfl (RV.tmp rfl) (RV.tmp rfl) (RV.tmp rfl) (RV.tmp rfl) (RV.tmp rfl))
   ·replace h := if_F h hb
    refine wc_skip ?_
    refine KX.go (hK_176' [(0, st text), (1, zI from0), (9, zI i_14'), (10, zP b), (11, zI got_4')] _ ?_) ⟨rfl, rfl, rfl, rfl, rfl, trivial⟩
    refine wc_seq (fun K0_179' hK_179' => ?_)
    refine wc_seq (fun K0_180' hK_180' => ?_)
    refine wc_region ?_
    refine wv (OV.assign rfl) ?_
    refine WL.nil ?_
    refine KX.go (hK_180' [(0, st text), (1, zI from0), (9, zI i_14'), (10, zP b), (11, zI got_4'), (12, zI 0)] _ ?_) ⟨rfl, rfl, rfl, rfl, rfl, rfl, trivial⟩
    refine wc_block ?_
    obtain ⟨Inv_7', mu_7', h0_7', hr_7'⟩ := h
    refine wc_loop (S := Int × Int × (Nat → Int)) (fun σ => Inv_7' σ.1 σ.2.1 σ.2.2) (fun σ => mu_7' σ.1 σ.2.1 σ.2.2) (fun σ => [(0, st text), (1, zI from0), (9, zI σ.1), (10, zP b), (11, zI got_4'), (12, zI σ.2.1)]) (fun σ => [HA.blk b (.cells (arr 2 (fun j => zI (σ.2.2 j))).toArray 169 (0, 0))]) (i_14', 0, v_15') h0_7' ⟨rfl, rfl, rfl, rfl, rfl, rfl, trivial⟩ rfl ?_
    rintro ⟨i_16', k_11', v_17'⟩ hi K0_190' hK_190'
    have h := hr_7' i_16' k_11' v_17' hi
    show WC _ _ _ _ [(0, st text), (1, zI from0), (9, zI i_16'), (10, zP b), (11, zI got_4'), (12, zI k_11')] [HA.blk b (.cells (arr 2 (fun j => zI (v_17' j))).toArray 169 (0, 0))]
    refine wc_seq (fun K0_191' hK_191' => ?_)
    refine wc_seq (fun K0_192' hK_192' => ?_)
    refine wc_region ?_
    refine wv (OV.move rfl) ?_
    refine wv (OV.lss rfl rfl) ?_
    refine wv (OV.move rfl) ?_
    obtain ⟨o_191', h⟩ := h
    refine WL.cut 4 [(0, st text), (1, zI from0), (9, zI i_16'), (10, zP b), (11, zI got_4'), (12, zI k_11'), (28, zB ((decide (k_11' < 3)) && (digitB text i_16')))] ?_ (fun K0_193' hK_193' => ?_)
    rotate_left
    ·refine WL.split (decide (k_11' < 3)) (fun hb => ?_) (fun hb => ?_)
     ·have o_190' := o_191' hb
      refine WL.set 24 rfl (congrArg zB hb) ?_
      refine wv (OV.move rfl) ?_
      refine wv (OV.move rfl) ?_
      refine WL.call (A := []) tf_ent_80 rfl (digit_does text i_16' o_190') rfl trivial rfl rfl ?_
      refine wv (OV.pickT rfl rfl) ?_
      refine WL.set 28 rfl (bT (v := digitB text i_16') hb) ?_
      exact WL.end_ (KX.go hK_193' ⟨rfl, rfl, rfl, rfl, rfl, rfl, rfl, trivial⟩)
     ·refine WL.set 24 rfl (congrArg zB hb) ?_
      refine WL.skip rfl rfl rfl ?_
      refine WL.skip rfl rfl rfl ?_
      refine WL.skip rfl rfl rfl ?_
      refine wv (OV.pickF rfl rfl) ?_
      refine WL.set 28 rfl (bF (v := digitB text i_16') hb) ?_
      exact WL.end_ (KX.go hK_193' ⟨rfl, rfl, rfl, rfl, rfl, rfl, rfl, trivial⟩)
    refine WL.nil ?_
    refine KX.go (hK_192' [(0, st text), (1, zI from0), (9, zI i_16'), (10, zP b), (11, zI got_4'), (12, zI k_11'), (28, zB ((decide (k_11' < 3)) && (digitB text i_16')))] _ ?_) ⟨rfl, rfl, rfl, rfl, rfl, rfl, rfl, trivial⟩
    refine wc_cond (b := (decide (k_11' < 3)) && (digitB text i_16')) rfl (fun hb => ?_) (fun hb => ?_)
    ·replace h := if_T h hb
     refine wc_skip ?_
     refine KX.go (hK_191' [(0, st text), (1, zI from0), (9, zI i_16'), (10, zP b), (11, zI got_4'), (12, zI k_11')] _ ?_) ⟨rfl, rfl, rfl, rfl, rfl, rfl, trivial⟩
     refine wc_seq (fun K0_194' hK_194' => ?_)
     refine wc_block ?_
     refine wc_seq (fun K0_195' hK_195' => ?_)
     refine wc_draw 11 [] tf_mixed (by kernel_rfl) rfl (fun T_18' hT_18' => ?_)
     refine FL.val (fun _ => OV.move rfl) rfl (fun _ => rfl) rfl rfl ?_
     refine FL.val (fun _ => OV.move rfl) rfl (fun _ => rfl) rfl rfl ?_
     obtain ⟨o_192', h⟩ := h
     refine FL.val (fun _ => OV.indexAddr1 rfl rfl tf_arr_169 o_192') rfl (fun _ => rfl) rfl rfl ?_
     refine FL.val (fun _ => OV.load rfl (At.own 0 rfl) (arr_get (by first | omega | assumption)) tf_scal_3) rfl (fun _ => rfl) rfl rfl ?_
     obtain ⟨o_193', h⟩ := h
     refine FL.val (fun _ => OV.mul rfl rfl o_193') rfl (fun _ => rfl) rfl rfl ?_
     refine FL.val (fun _ => OV.move rfl) rfl (fun _ => rfl) rfl rfl ?_
     refine FL.val (fun _ => OV.move rfl) rfl (fun _ => rfl) rfl rfl ?_
     obtain ⟨o_194', h⟩ := h
     refine FL.val (fun _ => OV.index rfl rfl tf_str_9 o_194') rfl (fun _ => rfl) rfl rfl ?_
     refine FL.val (fun _ => OV.subW rfl rfl) rfl (fun _ => rfl) rfl rfl ?_
     obtain ⟨o_195', h⟩ := h
     refine FL.val (fun _ => OV.conv64 rfl tf_some_5 Tryd.underlying3 o_195') rfl (fun _ => rfl) rfl rfl ?_
     obtain ⟨o_196', h⟩ := h
     refine FL.val (fun _ => OV.add rfl rfl o_196') rfl (fun _ => rfl) rfl rfl ?_
     refine FL.weak (L' := fun γ => [(0, st text), (1, zI from0), (9, zI i_16'), (10, zP b), (11, zI got_4'), (12, zI k_11'), (31, zI got_4'), (41, zI ((10 * (v_17' ((got_4').toNat))) + (IntKind.wrap .u8 (((text.getD i_16'.toNat 0).toNat : Int) - 48))))]) (fun γ => ⟨rfl, rfl, rfl, rfl, rfl, rfl, rfl, rfl, trivial⟩) (FL.nil (hT_18' (fun γ => [(0, st text), (1, zI from0), (9, zI i_16'), (10, zP b), (11, zI got_4'), (12, zI k_11'), (31, zI got_4'), (41, zI ((10 * (v_17' ((got_4').toNat))) + (IntKind.wrap .u8 (((text.getD i_16'.toNat 0).toNat : Int) - 48))))]) (fun γ => ?_)))
     obtain ⟨o_197', h⟩ := h
     refine wv (OV.indexAddr1 rfl rfl tf_arr_169 o_197') ?_
     refine WL.storeA' (f' := fun j => zI (if j = (got_4').toNat then (10 * (v_17' ((got_4').toNat))) + (IntKind.wrap .u8 (((text.getD i_16'.toNat 0).toNat : Int) - 48)) else v_17' j)) 0 rfl rfl rfl rfl tf_size_3 (by first | decide | omega) rfl rfl (fun j => by by_cases hj : j = (got_4').toNat <;> simp [hj]) ?_
     refine WL.nil ?_
     refine KX.go (hK_195' [(0, st text), (1, zI from0), (9, zI i_16'), (10, zP b), (11, zI got_4'), (12, zI k_11')] _ ?_) ⟨rfl, rfl, rfl, rfl, rfl, rfl, trivial⟩
     refine wc_region ?_
     refine wv (OV.move rfl) ?_
     obtain ⟨o_198', h⟩ := h
     refine wv (OV.add rfl rfl o_198') ?_
     refine wv (OV.assign rfl) ?_
     refine WL.nil ?_
     refine KX.go (hK_194' [(0, st text), (1, zI from0), (9, zI (i_16' + 1)), (10, zP b), (11, zI got_4'), (12, zI k_11')] _ ?_) ⟨rfl, rfl, rfl, rfl, rfl, rfl, trivial⟩
     refine wc_region ?_
     refine wv (OV.move rfl) ?_
     obtain ⟨o_199', h⟩ := h
     refine wv (OV.add rfl rfl o_199') ?_
     refine wv (OV.assign rfl) ?_
     refine WL.nil ?_
     exact KX.goH (hK_190' (i_16' + 1, k_11' + 1, fun j => if j = (got_4').toNat then (10 * (v_17' ((got_4').toNat))) + (IntKind.wrap .u8 (((text.getD i_16'.toNat 0).toNat : Int) - 48)) else v_17' j) h.1 h.2) ⟨rfl, rfl, rfl, rfl, rfl, rfl, trivial⟩ [0] rfl rfl
    ·replace h := if_F h hb
     refine wc_exit ?_
     refine KX.go (hK_179' [(0, st text), (1, zI from0), (9, zI i_16'), (10, zP b), (11, zI got_4')] _ ?_) ⟨rfl, rfl, rfl, rfl, rfl, trivial⟩
     refine wc_seq (fun K0_196' hK_196' => ?_)
     refine wc_region ?_
     refine wv (OV.move rfl) ?_
     obtain ⟨o_200', h⟩ := h
     refine wv (OV.add rfl rfl o_200') ?_
     refine wv (OV.assign rfl) ?_
     refine WL.nil ?_
     refine KX.go (hK_196' [(0, st text), (1, zI from0), (9, zI i_16'), (10, zP b), (11, zI (got_4' + 1))] _ ?_) ⟨rfl, rfl, rfl, rfl, rfl, trivial⟩
     refine wc_seq (fun K0_197' hK_197' => ?_)
     refine wc_seq (fun K0_198' hK_198' => ?_)
     refine wc_region ?_
     refine wv (OV.move rfl) ?_
     refine wv (OV.eql rfl rfl) ?_
     refine wv (OV.move rfl) ?_
     refine WL.cut 5 [(0, st text), (1, zI from0), (9, zI i_16'), (10, zP b), (11, zI (got_4' + 1)), (54, zB ((decide (got_4' + 1 = 2)) || (decide ((text.length : Int) ≤ i_16'))))] ?_ (fun K0_199' hK_199' => ?_)
     rotate_left
     ·refine WL.split (decide (got_4' + 1 = 2)) (fun hb => ?_) (fun hb => ?_)
      ·refine WL.set 49 rfl (congrArg zB hb) ?_
       refine WL.skip rfl rfl rfl ?_
       refine WL.skip rfl rfl rfl ?_
       refine WL.skip rfl rfl rfl ?_
       refine WL.skip rfl rfl rfl ?_
       refine wv (OV.pickT rfl rfl) ?_
       refine WL.set 54 rfl (oT (v := decide ((text.length : Int) ≤ i_16')) hb) ?_
       exact WL.end_ (KX.go hK_199' ⟨rfl, rfl, rfl, rfl, rfl, rfl, trivial⟩)
      ·refine WL.set 49 rfl (congrArg zB hb) ?_
       refine wv (OV.move rfl) ?_
       refine wv (OV.move rfl) ?_
       refine wv (OV.len rfl tf_str_9) ?_
       refine wv (OV.geq rfl rfl) ?_
       refine wv (OV.pickF rfl rfl) ?_
       refine WL.set 54 rfl (oF (v := decide ((text.length : Int) ≤ i_16')) hb) ?_
       exact WL.end_ (KX.go hK_199' ⟨rfl, rfl, rfl, rfl, rfl, rfl, trivial⟩)
     refine wv (OV.move rfl) ?_
     obtain ⟨o_203', h⟩ := h
     refine WL.cut 5 [(0, st text), (1, zI from0), (9, zI i_16'), (10, zP b), (11, zI (got_4' + 1)), (60, zB (((decide (got_4' + 1 = 2)) || (decide ((text.length : Int) ≤ i_16'))) || (!decide (((text.getD i_16'.toNat 0).toNat : Int) = 44))))] ?_ (fun K0_200' hK_200' => ?_)
     rotate_left
     ·refine WL.split ((decide (got_4' + 1 = 2)) || (decide ((text.length : Int) ≤ i_16'))) (fun hb => ?_) (fun hb => ?_)
      ·refine WL.set 55 rfl (congrArg zB hb) ?_
       refine WL.skip rfl rfl rfl ?_
       refine WL.skip rfl rfl rfl ?_
       refine WL.skip rfl rfl rfl ?_
       refine WL.skip rfl rfl rfl ?_
       refine wv (OV.pickT rfl rfl) ?_
       refine WL.set 60 rfl (oT (v := !decide (((text.getD i_16'.toNat 0).toNat : Int) = 44)) hb) ?_
       exact WL.end_ (KX.go hK_200' ⟨rfl, rfl, rfl, rfl, rfl, rfl, trivial⟩)
      ·have o_202' := o_203' hb
       refine WL.set 55 rfl (congrArg zB hb) ?_
       refine wv (OV.move rfl) ?_
       refine wv (OV.move rfl) ?_
       refine wv (OV.index rfl rfl tf_str_9 o_202') ?_
       refine wv (OV.neq rfl rfl) ?_
       refine wv (OV.pickF rfl rfl) ?_
       refine WL.set 60 rfl (oF (v := !decide (((text.getD i_16'.toNat 0).toNat : Int) = 44)) hb) ?_
       exact WL.end_ (KX.go hK_200' ⟨rfl, rfl, rfl, rfl, rfl, rfl, trivial⟩)
     refine WL.nil ?_
     refine KX.go (hK_198' [(0, st text), (1, zI from0), (9, zI i_16'), (10, zP b), (11, zI (got_4' + 1)), (60, zB (((decide (got_4' + 1 = 2)) || (decide ((text.length : Int) ≤ i_16'))) || (!decide (((text.getD i_16'.toNat 0).toNat : Int) = 44))))] _ ?_) ⟨rfl, rfl, rfl, rfl, rfl, rfl, trivial⟩
     refine wc_cond (b := ((decide (got_4' + 1 = 2)) || (decide ((text.length : Int) ≤ i_16'))) || (!decide (((text.getD i_16'.toNat 0).toNat : Int) = 44))) rfl (fun hb => ?_) (fun hb => ?_)
     ·replace h := if_T h hb
      refine wc_exit ?_
      exact KX.goH (hK_97' (i_16', got_4' + 1, v_17') h) ⟨rfl, rfl, rfl, rfl, rfl, trivial⟩ [0] rfl rfl
     ·replace h := if_F h hb
      refine wc_skip ?_
      refine KX.go (hK_197' [(0, st text), (1, zI from0), (9, zI i_16'), (10, zP b), (11, zI (got_4' + 1))] _ ?_) ⟨rfl, rfl, rfl, rfl, rfl, trivial⟩
      refine wc_seq (fun K0_201' hK_201' => ?_)
      refine wc_region ?_
      refine wv (OV.move rfl) ?_
      obtain ⟨o_204', h⟩ := h
      refine wv (OV.add rfl rfl o_204') ?_
      refine wv (OV.assign rfl) ?_
      refine WL.nil ?_
      refine KX.go (hK_201' [(0, st text), (1, zI from0), (9, zI (i_16' + 1)), (10, zP b), (11, zI (got_4' + 1))] _ ?_) ⟨rfl, rfl, rfl, rfl, rfl, trivial⟩
      refine wc_seq (fun K0_202' hK_202' => ?_)
      refine wc_region ?_
      refine wv (OV.move rfl) ?_
      refine wv (OV.move rfl) ?_
      refine wv (OV.len rfl tf_str_9) ?_
      refine wv (OV.lss rfl rfl) ?_
      refine wv (OV.move rfl) ?_
      obtain ⟨o_206', h⟩ := h
      refine WL.cut 5 [(0, st text), (1, zI from0), (9, zI (i_16' + 1)), (10, zP b), (11, zI (got_4' + 1)), (72, zB ((decide (i_16' + 1 < (text.length : Int))) && (decide (((text.getD (i_16' + 1).toNat 0).toNat : Int) = 125))))] ?_ (fun K0_203' hK_203' => ?_)
      rotate_left
      ·refine WL.split (decide (i_16' + 1 < (text.length : Int))) (fun hb => ?_) (fun hb => ?_)
       ·have o_205' := o_206' hb
        refine WL.set 67 rfl (congrArg zB hb) ?_
        refine wv (OV.move rfl) ?_
        refine wv (OV.move rfl) ?_
        refine wv (OV.index rfl rfl tf_str_9 o_205') ?_
        refine wv (OV.eql rfl rfl) ?_
        refine wv (OV.pickT rfl rfl) ?_
        refine WL.set 72 rfl (bT (v := decide (((text.getD (i_16' + 1).toNat 0).toNat : Int) = 125)) hb) ?_
        exact WL.end_ (KX.go hK_203' ⟨rfl, rfl, rfl, rfl, rfl, rfl, trivial⟩)
       ·refine WL.set 67 rfl (congrArg zB hb) ?_
        refine WL.skip rfl rfl rfl ?_
        refine WL.skip rfl rfl rfl ?_
        refine WL.skip rfl rfl rfl ?_
        refine WL.skip rfl rfl rfl ?_
        refine wv (OV.pickF rfl rfl) ?_
        refine WL.set 72 rfl (bF (v := decide (((text.getD (i_16' + 1).toNat 0).toNat : Int) = 125)) hb) ?_
        exact WL.end_ (KX.go hK_203' ⟨rfl, rfl, rfl, rfl, rfl, rfl, trivial⟩)
      refine WL.nil ?_
      refine KX.go (hK_202' [(0, st text), (1, zI from0), (9, zI (i_16' + 1)), (10, zP b), (11, zI (got_4' + 1)), (72, zB ((decide (i_16' + 1 < (text.length : Int))) && (decide (((text.getD (i_16' + 1).toNat 0).toNat : Int) = 125))))] _ ?_) ⟨rfl, rfl, rfl, rfl, rfl, rfl, trivial⟩
      refine wc_cond (b := (decide (i_16' + 1 < (text.length : Int))) && (decide (((text.getD (i_16' + 1).toNat 0).toNat : Int) = 125))) rfl (fun hb => ?_) (fun hb => ?_)
      ·replace h := if_T h hb
       refine wc_seq (fun K0_204' hK_204' => ?_)
       refine wc_region ?_
       refine wv (OV.indexAddr rfl rfl tf_arr_169 (by decide) rfl) ?_
       refine WL.storeA' (f' := fun j => zI (if j = 1 then (-1) else v_17' j)) 0 rfl rfl rfl rfl tf_size_3 (by first | decide | omega) rfl rfl (fun j => by by_cases hj : j = 1 <;> simp [hj]) ?_
       refine WL.nil ?_
       refine KX.go (hK_204' [(0, st text), (1, zI from0), (9, zI (i_16' + 1)), (10, zP b)] _ ?_) ⟨rfl, rfl, rfl, rfl, trivial⟩
       refine wc_region ?_
       refine wv (OV.assign rfl) ?_
       refine WL.nil ?_
       exact KX.goH (hK_173' (i_16' + 1, 2, fun j => if j = 1 then (-1) else v_17' j) h.1 h.2) ⟨rfl, rfl, rfl, rfl, rfl, trivial⟩ [0] rfl rfl
      ·replace h := if_F h hb
       refine wc_skip ?_
       exact KX.goH (hK_173' (i_16' + 1, got_4' + 1, v_17') h.1 h.2) ⟨rfl, rfl, rfl, rfl, rfl, trivial⟩ [0] rfl rfl
  ·replace h := if_F h hb
   refine wc_exit ?_
   exact KX.goH (hK_97' (i_14', got_4', v_15') h) ⟨rfl, rfl, rfl, rfl, rfl, trivial⟩ [0] rfl rfl

theorem rbraces_does (t : List UInt8) (i : Int) (h : 0 ≤ i ∧ i < (t.length : Int) ∧ t.length ≤ 1048576) : Does Tryd.prog 44 [st t, .int .i64 i] [] []
  (fun o => ∃ m n k e p, BrR t i m n k e p ∧ o = .ret (.tuple #[.int .i64 m, .int .i64 n, .int .i64 k, .int .i64 e, .int .i64 p]) []) := by
 obtain ⟨h0, h1, h2⟩ := h
 refine (rbraces_wp t i (fun m n k e p => BrR t i m n k e p) ?_).weak ?_
 ·unfold rbraces_vc
  refine ⟨by unfold I64; omega, fun q got v => got = 1 ∧ numM t (i + 1) = .ok (v 0, q) ∧ comB t (v 0) q = .ok (v 0, q) ∧ 0 ≤ q ∧ q ≤ t.length ∨ got = 2 ∧ ∃ j, numM t (i + 1) = .ok (v 0, j) ∧ comB t (v 0) j = .ok (v 1, q) ∧ 0 ≤ q ∧ q ≤ t.length, ?_,
   fun q got v => got = 0 ∧ q = i + 1 ∧ v 0 = 0 ∧ v 1 = 0 ∨ got = 1 ∧ v 1 = 0 ∧ (∃ j, numM t (i + 1) = .ok (v 0, j) ∧ j < t.length ∧ 0 ≤ j ∧ nx t j = 44 ∧ q = j + 1 ∧ ¬ (j + 1 < t.length ∧ nx t (j + 1) = 125)) ∨ got = 2 ∧ ∃ j, numM t (i + 1) = .ok (v 0, j) ∧ comB t (v 0) j = .ok (v 1, q) ∧ 0 ≤ q ∧ q ≤ t.length,
   fun _ got _ => (2 - got).toNat, .inl ⟨rfl, rfl, rfl, rfl⟩, ?_⟩
  ·rintro q got v hJ
   refine ⟨fun u => u 0 = v 0 ∧ 0 ≤ q ∧ q ≤ t.length ∧ ∃ j, numM t (i + 1) = .ok (v 0, j) ∧ comB t (v 0) j = .ok (u 1, q), ?_, ?_⟩
   ·rintro u ⟨u0, q0, q1, j, hm, hc⟩
    refine ⟨fun _ => ⟨q0, by simp_all⟩, ?_⟩
    by_cases hk : q < t.length ∧ nx t q = 125
    ·rw [if_neg (by simp only [Bool.or_eq_true, decide_eq_true_eq, Bool.not_eq_true', decide_eq_false_iff_not]; have := hk.2; unfold nx at this; omega)]
     rw [u0]
     by_cases hz : v 0 > 255 ∨ u 1 > 255 ∨ (0 ≤ u 1 ∧ u 1 < v 0)
     ·rw [if_pos (by simp; omega)]
      exact .inr ⟨by omega, by simp only [bracesN, hm, hc, if_pos hk, if_pos hz]⟩
     ·rw [if_neg (by simp; omega)]
      exact ⟨by unfold I64; omega, .inl ⟨rfl, by simp only [bracesN, hm, hc, if_pos hk, if_neg hz]⟩⟩
    ·rw [if_pos (by simp only [Bool.or_eq_true, decide_eq_true_eq, Bool.not_eq_true', decide_eq_false_iff_not]; unfold nx at hk; omega)]
     exact .inr ⟨by omega, by simp only [bracesN, hm, hc, if_neg hk]⟩
   ·rcases hJ with ⟨rfl, hm, hc, q0, q1⟩ | ⟨rfl, j, hm, hc, q0, q1⟩
    ·rw [if_pos (by simp)]
     exact ⟨by simp, q0, q1, q, hm, by simpa using hc⟩
    ·rw [if_neg (by simp)]
     exact ⟨rfl, q0, q1, j, hm, hc⟩
  ·rintro q got v hI
   by_cases hg : got < 2
   ·rw [if_pos (by simpa using hg)]
    have hq : 0 ≤ q ∧ q ≤ t.length ∧ 0 ≤ got ∧ v got.toNat = 0 := by
     rcases hI with ⟨rfl, rfl, h3, h4⟩ | ⟨rfl, h4, j, _, h5, h6, _, rfl, _⟩ | ⟨rfl, _⟩
     ·exact ⟨by omega, by omega, by omega, h3⟩
     ·exact ⟨by omega, by omega, by omega, h4⟩
     ·omega
    obtain ⟨q0, q1, g0, hv0⟩ := hq
    refine ⟨q0, ?_⟩
    by_cases hd : digitB t q = true
    ·rw [if_neg (by simp [hd])]
     refine ⟨fun p k u => ∃ f : Nat, k = 3 - f ∧ f ≤ 3 ∧ p = q + k ∧ p ≤ t.length ∧ (∀ j, j ≠ got.toNat → u j = v j) ∧ 0 ≤ u got.toNat ∧ (k = 0 ∧ u got.toNat ≤ 0 ∨ k = 1 ∧ u got.toNat ≤ 9 ∨ k = 2 ∧ u got.toNat ≤ 99 ∨ k = 3 ∧ u got.toNat ≤ 999) ∧ numF t 3 0 q = numF t f (u got.toNat) p,
      fun _ k _ => (3 - k).toNat, ⟨3, by omega, by omega, by omega, q1, fun _ _ => rfl, by omega, by omega, by rw [hv0]⟩, ?_⟩
     rintro p k u ⟨f, k1, k2, k3, k4, k5, k6, k7, k8⟩
     have hb := nx_bd t p
     refine ⟨fun _ => by omega, ?_⟩
     by_cases hc : k < 3 ∧ digitB t p = true
     ·rw [if_pos (by simp [hc.1, hc.2])]
      have hdg := hc.2
      simp only [digitB, Bool.and_eq_true, decide_eq_true_eq] at hdg
      have hw : IntKind.wrap .u8 (nx t p - 48) = nx t p - 48 := IntWalk.u8_in _ (by omega)
      have hw' : IntKind.wrap .u8 (((t.getD p.toNat 0).toNat : Int) - 48) = nx t p - 48 := hw
      rw [hw']
      refine ⟨⟨g0, hg⟩, by unfold I64; omega, ⟨by omega, hdg.1.1⟩, by unfold I64; omega, by unfold I64; omega, ⟨g0, hg⟩, by unfold I64; omega, by unfold I64; omega, ⟨f - 1, by omega, by omega, by omega, by omega, fun j hj => (if_neg hj).trans (k5 j hj), ?_, ?_, ?_⟩, by show (3 - (k + 1)).toNat < (3 - k).toNat; omega⟩
      ·rw [show (fun j => if j = got.toNat then 10 * u got.toNat + (nx t p - 48) else u j) got.toNat = 10 * u got.toNat + (nx t p - 48) from if_pos rfl]; omega
      ·rw [show (fun j => if j = got.toNat then 10 * u got.toNat + (nx t p - 48) else u j) got.toNat = 10 * u got.toNat + (nx t p - 48) from if_pos rfl]; omega
      ·rw [show (fun j => if j = got.toNat then 10 * u got.toNat + (nx t p - 48) else u j) got.toNat = 10 * u got.toNat + (nx t p - 48) from if_pos rfl, k8]
       obtain ⟨f', rfl⟩ : ∃ f', f = f' + 1 := ⟨f - 1, by omega⟩
       rw [numF, if_pos ⟨hdg.1.1, by simp [digB]; omega⟩]; rfl
     ·rw [if_neg (by simp only [Bool.and_eq_true, decide_eq_true_eq]; exact hc)]
      have hN : numF t 3 0 q = (u got.toNat, p) := by
       rw [k8]
       cases f with
       | zero => rfl
       | succ f' =>
        rw [numF, if_neg (fun hn => hc ⟨by omega, by
         have := hn.2
         simp only [digB, Bool.and_eq_true, decide_eq_true_eq] at this
         simp only [digitB, Bool.and_eq_true, decide_eq_true_eq]
         exact ⟨⟨hn.1, this.1⟩, this.2⟩⟩)]
      have hne : ¬ p = q := fun e => hc ⟨by omega, by rw [e]; exact hd⟩
      have hM : numM t q = .ok (u got.toNat, p) := by unfold numM; rw [hN, if_neg hne]
      refine ⟨by unfold I64; omega, fun hz => ⟨by omega, by simp at hz; omega⟩, ?_⟩
      rcases hI with ⟨rfl, rfl, h3, h4⟩ | ⟨rfl, h4, j, hj1, hj2, hj3, hj4, rfl, hj5⟩ | ⟨rfl, _⟩
      ·-- behind the first number
       have hu1 : u 1 = 0 := by rw [k5 1 (by decide)]; exact h4
       by_cases hcm : p < t.length ∧ nx t p = 44
       ·rw [if_neg (by simp only [Bool.or_eq_true, decide_eq_true_eq, Bool.not_eq_true', decide_eq_false_iff_not]; have := hcm.2; unfold nx at this; omega)]
        refine ⟨by unfold I64; omega, fun hz => ⟨by omega, by simpa using hz⟩, ?_⟩
        by_cases hcl : p + 1 < t.length ∧ nx t (p + 1) = 125
        ·rw [if_pos (by simp only [Bool.and_eq_true, decide_eq_true_eq]; exact hcl)]
         refine ⟨.inr (.inr ⟨rfl, p, by simpa using hM, ?_, by omega, by omega⟩), by show (2 - 2 : Int).toNat < (2 - 0 : Int).toNat; omega⟩
         simp only [comB, if_pos hcm, if_pos hcl]; simp
        ·rw [if_neg (by simp only [Bool.and_eq_true, decide_eq_true_eq]; exact hcl)]
         exact ⟨.inr (.inl ⟨rfl, hu1, p, by simpa using hM, hcm.1, by omega, hcm.2, rfl, hcl⟩), by show (2 - (0 + 1) : Int).toNat < (2 - 0 : Int).toNat; omega⟩
       ·rw [if_pos (by simp only [Bool.or_eq_true, decide_eq_true_eq, Bool.not_eq_true', decide_eq_false_iff_not]; unfold nx at hcm; omega)]
        exact .inl ⟨rfl, by simpa using hM, by simp only [comB, if_neg hcm], by omega, by omega⟩
      ·-- behind the second
       rw [if_pos (by simp)]
       have hu0 : u 0 = v 0 := k5 0 (by decide)
       refine .inr ⟨rfl, j, by rw [hu0]; exact hj1, ?_, by omega, by omega⟩
       simp only [comB, if_pos (show j < t.length ∧ nx t j = 44 from ⟨hj2, hj4⟩), if_neg hj5]
       simpa using hM
      ·omega
    ·rw [if_pos (by simp [hd])]
     have hN : numF t 3 0 q = (0, q) := by
      rw [numF, if_neg (fun hn => hd (by
       have := hn.2
       simp only [digB, Bool.and_eq_true, decide_eq_true_eq] at this
       simp only [digitB, Bool.and_eq_true, decide_eq_true_eq]
       exact ⟨⟨hn.1, this.1⟩, this.2⟩))]
     have hM : numM t q = .error (20, q) := by unfold numM; rw [hN]; simp
     refine .inr ⟨by omega, ?_⟩
     rcases hI with ⟨rfl, rfl, h3, h4⟩ | ⟨rfl, h4, j, hj1, hj2, hj3, hj4, rfl, hj5⟩ | ⟨rfl, _⟩
     ·simp only [bracesN, hM]
     ·simp only [bracesN, hj1, comB, if_pos (show j < t.length ∧ nx t j = 44 from ⟨hj2, hj4⟩), if_neg hj5, hM]
     ·omega
   ·rw [if_neg (by simpa using hg)]
    rcases hI with ⟨rfl, _⟩ | ⟨rfl, _⟩ | hI
    ·omega
    ·omega
    ·exact .inr hI
 ·rintro o (⟨m, n, k, e, p, hK, rfl⟩ | h)
  ·exact ⟨m, n, k, e, p, hK, rfl⟩
  ·exact h.elim

end Go.Proofs.YtohnchdnkbadaaaDoor
