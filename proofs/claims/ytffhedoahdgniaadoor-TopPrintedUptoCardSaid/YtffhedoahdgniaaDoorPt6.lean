/-
  Merged: RfA.
-/
import Derived.Test.YtffhedoahdgniaaDoorPt5
set_option maxRecDepth 100000
namespace Go.Proofs.YtffhedoahdgniaaDoor
open Go Go.RowKit
theorem v7 : m5 Tryd.prog 52 0 = some 0 := by kernel_rfl
theorem v8 : aaj Tryd.prog 30 = true := by kernel_rfl
theorem p9 : slB Tryd.prog 30 63 261 = true := by kernel_rfl
theorem ace : abz Tryd.prog 63 = some (ndC ndZ) := by kernel_rfl
theorem aec : afn Tryd.prog 63 = some ((ndC ndZ), 261, 296) := by kernel_rfl
theorem ad8 : s7 Tryd.prog 30 1 = true := by kernel_rfl
theorem j6 : m5 Tryd.prog 52 1 = some 1 := by kernel_rfl
theorem n6 : aaj Tryd.prog 50 = true := by kernel_rfl
theorem o7 : slB Tryd.prog 50 54 6 = true := by kernel_rfl
theorem x8 : m5 Tryd.prog 54 5 = some 5 := by kernel_rfl
theorem w8 : m5 Tryd.prog 54 4 = some 4 := by kernel_rfl
theorem afp : r8 Tryd.prog 32 = true := by kernel_rfl
theorem apo : r8 Tryd.prog 19 = true := by kernel_rfl
theorem x7 : m5 Tryd.prog 54 2 = some 2 := by kernel_rfl
theorem ahv : m5 Tryd.prog 54 3 = some 3 := by kernel_rfl
theorem apl : r8 Tryd.prog 18 = true := by kernel_rfl
theorem abc : m5 Tryd.prog 54 1 = some 1 := by kernel_rfl
theorem atf : abz Tryd.prog 54 = some [zI 0, zI 0, zI 0, zU 0, zI 0, zI 0] := by kernel_rfl
theorem auu : s7 Tryd.prog 54 6 = true := by kernel_rfl
theorem axm : RowT Tryd.prog 54 6 := ⟨by kernel_rfl, by kernel_rfl⟩
theorem ase : abz Tryd.prog 92 = some (arr 2 (fun j => zI ((fun _ => 0) j))) := by kernel_rfl
theorem apw : r8 Tryd.prog 31 = true := by kernel_rfl
theorem aan : asb Tryd.prog 92 3 2 1 = true := by kernel_rfl
def aqz (s_1 : Value) (sl : List ND) (op : Int) (a : Int) (b_1' : Int) (K : Int → Value → (List ND) → Prop) : Prop :=
 (((sl.length + 1) + (sl.length + 1) / 4 + 192) * 296 ≤ 281474976710656 ∧ sl.length + 1 ≤ 9223372036854775807) ∧
 (I64 (((sl ++ [(op, (fun _ => false), a, b_1', 0, 0)]).length : Int) - 1)) ∧
 K (((sl ++ [(op, (fun _ => false), a, b_1', 0, 0)]).length : Int) - 1) s_1 (sl ++ [(op, (fun _ => false), a, b_1', 0, 0)])
theorem a0f (b : Nat) (w : Value) (s_1 : Value) (sl : List ND) (op : Int) (a : Int) (b_1' : Int) (K : Int → Value → (List ND) → Prop) (h : aqz s_1 sl op a b_1' K) :
  d5 Tryd.prog 32 [zP b, zI op, zI a, zI b_1'] [] [HA.blk b (.cells [w, s_1].toArray 52 (0, 0)), HA.row w 63 261 sl.length (sl.flatMap ndC)] (fun o => (∃ (v : Int) (d_1' : Value) (w_2' : Value) (d : List ND), K v d_1' d ∧ o = .ret (zI v) [HA.blk b (.cells [w_2', d_1'].toArray 52 (0, 0)), HA.row w_2' 63 261 d.length (d.flatMap ndC)]) ∨ (False)) := by
 unfold aqz at h
 refine c8 (n := 28) (L0 := [(0, zP b), (1, zI op), (2, zI a), (3, zI b_1')]) Tryd.func32 rfl rfl rfl rfl (fun w0 M Q hE => ?_)
 refine a6 (fun _ hK => ?_)
 refine a4 ?_
 refine wa ?_
 refine WL.nil ?_
 refine kg (hK [(0, zP b), (1, zI op), (2, zI a), (3, zI b_1')] _ ?_)
 refine a6 (fun _ hK_1' => ?_)
 refine a4 ?_
 refine wm ?_
 refine wm ?_
 refine wv (OV.nilCheck rfl) ?_
 refine wv (OV.fieldAddr0 rfl v7) ?_
 refine wv (OV.load rfl (At.own 0 rfl) rfl v8) ?_
 refine wm ?_
 refine wm ?_
 refine wm ?_
 refine wv (OV.build rfl (cs := ndC (op, (fun _ => false), a, b_1', 0, 0)) (by kernel_rfl)) ?_
 refine WL.make (MV.buildSlice1 (cs := ndC (op, (fun _ => false), a, b_1', 0, 0)) rfl rfl p9 ace (s6 _) (s6 _)) rfl rfl rfl (fun b_2' => ?_)
 obtain ⟨o, h⟩ := h
 refine WL.append (f := ndC) (ms := [(op, (fun _ => false), a, b_1', 0, 0)]) 2 0 rfl rfl rfl rfl (agu _ _) rfl s6 (by decide) (afr (op, (fun _ => false), a, b_1', 0, 0)) p9 aec rfl o rfl rfl (fun w_1' => ?_)
 refine wv (OV.nilCheck rfl) ?_
 refine wv (OV.fieldAddr0 rfl v7) ?_
 refine WL.storeSl (cs' := [w_1', s_1]) 1 2 rfl rfl rfl rfl ad8 (Nat.le_of_ble_eq_true rfl) rfl rfl ?_
 refine WL.nil ?_
 refine kg (hK_1' [(0, zP b)] _ ?_)
 refine a6 (fun _ hK_2' => ?_)
 refine a4 ?_
 refine wm ?_
 refine wv (OV.nilCheck rfl) ?_
 refine wv (OV.fieldAddr0 rfl v7) ?_
 refine wv (OV.load rfl (At.own 1 rfl) rfl v8) ?_
 refine wv (OV.lenRow 2 rfl rfl p9) ?_
 obtain ⟨o_1', h⟩ := h
 refine wv (OV.sub rfl rfl o_1') ?_
 refine wa ?_
 refine WL.nil ?_
 refine kg (hK_2' [(8, zI (((sl ++ [(op, (fun _ => false), a, b_1', 0, 0)]).length : Int) - 1))] _ ?_)
 refine c9 ?_
 exact hE.ret [1, 2] rfl rfl (.inl ⟨_, _, _, _, h, rfl⟩) (f9.of1 rfl (RV.tmp rfl))
abbrev stB (b : Nat) (w1 w2 : Value) : HA := .blk b (.cells [w1, w2].toArray 52 (0, 0))
abbrev ndR (w : Value) (n : List ND) : HA := .row w 63 261 n.length (n.flatMap ndC)
abbrev frR (w : Value) (s : List FR) : HA := .row w 54 6 s.length (s.flatMap frC)
theorem afm (b : Nat) (w1 : Value) (n : List ND) (w2 : Value) (op a c : Int) (h : n.length ≤ 100000000) : d5 Tryd.prog 32 [.pointer (some ⟨b, 0, none⟩), .int .i64 op, .int .i64 a, .int .i64 c] [] [stB b w1 w2, ndR w1 n]
  (fun o => ∃ w, o = .ret (.int .i64 (n.length : Int)) [stB b w w2, ndR w (n ++ [(op, fun _ => false, a, c, 0, 0)])]) := by
 refine (a0f b w1 w2 n op a c (fun v x l => v = (n.length : Int) ∧ x = w2 ∧ l = n ++ [(op, fun _ => false, a, c, 0, 0)]) ?_).weak ?_
 ·unfold aqz
  have hl : (n ++ [(op, fun _ => false, a, c, 0, 0)]).length = n.length + 1 := by simp
  rw [hl]
  exact ⟨by omega, by unfold I64; omega, by omega, rfl, rfl⟩
 ·rintro o (⟨v, x, w, l, ⟨rfl, rfl, rfl⟩, rfl⟩ | h)
  ·exact ⟨w, rfl⟩
  ·exact h.elim
def alp (n : List ND) (s : List FR) (n2 : List ND) (s2 : List FR) : Prop := s2.length = s.length ∧ n2.length ≤ n.length + 1 ∧ ∀ a rest, y8 n s (a :: rest) → NOK n → y8 n2 s2 (a.settle :: rest) ∧ NOK n2
def avs (n : List ND) (s : List FR) (n2 : List ND) (s2 : List FR) : Prop := s2.length = s.length ∧ n2.length ≤ n.length + 3 ∧ ∀ a rest, y8 n s (a :: rest) → NOK n → y8 n2 s2 (a.fold :: rest) ∧ NOK n2
def am7 (n : List ND) (s : List FR) (n2 : List ND) (s2 : List FR) : Prop := s2.length = s.length ∧ n2.length ≤ n.length + 4 ∧ ∀ a rest, y8 n s (a :: rest) → NOK n → y8 n2 s2 (a.close :: rest) ∧ NOK n2
def aie (sl : List ND) (sl_1' : List FR) (K : (List ND) → (List FR) → Prop) : Prop :=
 (I64 ((sl_1'.length : Int) - 1)) ∧
 (0 ≤ ((sl_1'.length : Int) - 1) ∧ ((sl_1'.length : Int) - 1) < (sl_1'.length : Int)) ∧
 (if (decide ((sl_1'.getD (((sl_1'.length : Int) - 1)).toNat default).2.2.2.2.2 < 0)) = true then
  K sl sl_1'
 else
  ∃ (J0 : (List ND) → (List FR) → Prop),
   (∀ (l : List ND) (l_1' : List FR), J0 l l_1' →
    ((((sl_1'.length : Int) - 1)).toNat < l_1'.length) ∧
    K l (l_1'.set ((((sl_1'.length : Int) - 1)).toNat) ((l_1'.getD (((sl_1'.length : Int) - 1)).toNat default).1, (l_1'.getD (((sl_1'.length : Int) - 1)).toNat default).2.1, (l_1'.getD (((sl_1'.length : Int) - 1)).toNat default).2.2.1, (l_1'.getD (((sl_1'.length : Int) - 1)).toNat default).2.2.2.1, (l_1'.getD (((sl_1'.length : Int) - 1)).toNat default).2.2.2.2.1, (-1)))) ∧
   (if (decide ((sl_1'.getD (((sl_1'.length : Int) - 1)).toNat default).2.2.2.2.1 < 0)) = true then
    J0 sl (sl_1'.set ((((sl_1'.length : Int) - 1)).toNat) ((sl_1'.getD (((sl_1'.length : Int) - 1)).toNat default).1, (sl_1'.getD (((sl_1'.length : Int) - 1)).toNat default).2.1, (sl_1'.getD (((sl_1'.length : Int) - 1)).toNat default).2.2.1, (sl_1'.getD (((sl_1'.length : Int) - 1)).toNat default).2.2.2.1, (sl_1'.getD (((sl_1'.length : Int) - 1)).toNat default).2.2.2.2.2, (sl_1'.getD (((sl_1'.length : Int) - 1)).toNat default).2.2.2.2.2))
   else
    (sl.length ≤ 100000000) ∧
    (
     J0 (sl ++ [(2, fun _ => false, (sl_1'.getD (((sl_1'.length : Int) - 1)).toNat default).2.2.2.2.1, (sl_1'.getD (((sl_1'.length : Int) - 1)).toNat default).2.2.2.2.2, 0, 0)]) (sl_1'.set ((((sl_1'.length : Int) - 1)).toNat) ((sl_1'.getD (((sl_1'.length : Int) - 1)).toNat default).1, (sl_1'.getD (((sl_1'.length : Int) - 1)).toNat default).2.1, (sl_1'.getD (((sl_1'.length : Int) - 1)).toNat default).2.2.1, (sl_1'.getD (((sl_1'.length : Int) - 1)).toNat default).2.2.2.1, (sl.length : Int), (sl_1'.getD (((sl_1'.length : Int) - 1)).toNat default).2.2.2.2.2)))))
theorem au4 (b : Nat) (w : Value) (w_1' : Value) (sl : List ND) (sl_1' : List FR) (K : (List ND) → (List FR) → Prop) (h : aie sl sl_1' K) :
  d5 Tryd.prog 19 [zP b] [] [HA.blk b (.cells [w, w_1'].toArray 52 (0, 0)), HA.row w 63 261 sl.length (sl.flatMap ndC), HA.row w_1' 54 6 sl_1'.length (sl_1'.flatMap frC)] (fun o => (∃ (w_5' : Value) (d : List ND) (d_1' : List FR), K d d_1' ∧ o = .ret (Value.tuple #[]) [HA.blk b (.cells [w_5', w_1'].toArray 52 (0, 0)), HA.row w_5' 63 261 d.length (d.flatMap ndC), HA.row w_1' 54 6 d_1'.length (d_1'.flatMap frC)]) ∨ (False)) := by
 unfold aie at h
 refine c8 (n := 47) (L0 := [(0, zP b)]) Tryd.func19 rfl rfl rfl rfl (fun w0 M Q hE => ?_)
 refine a6 (fun _ hK => ?_)
 refine q9 10 [] g8 (by kernel_rfl) rfl (fun T hT => ?_)
 refine fv (fun _ => OV.move rfl) ?_
 refine fv (fun _ => OV.nilCheck rfl) ?_
 refine fv (fun _ => OV.fieldAddr0 rfl j6) ?_
 refine fv (fun _ => OV.load rfl (At.own 0 rfl) rfl n6) ?_
 refine fv (fun _ => OV.move rfl) ?_
 refine fv (fun _ => OV.nilCheck rfl) ?_
 refine fv (fun _ => OV.fieldAddr0 rfl j6) ?_
 refine fv (fun _ => OV.load rfl (At.own 0 rfl) rfl n6) ?_
 refine fv (fun _ => OV.lenRow 2 rfl rfl o7) ?_
 obtain ⟨o, h⟩ := h
 refine fv (fun _ => OV.sub rfl rfl o) ?_
 refine FL.weak (L' := fun γ => [(0, zP b), (6, w_1'), (12, zI ((sl_1'.length : Int) - 1))]) (fun γ => ⟨rfl, rfl, rfl, trivial⟩) (FL.nil (hT (fun γ => [(0, zP b), (6, w_1'), (12, zI ((sl_1'.length : Int) - 1))]) (fun γ => ?_)))
 obtain ⟨o_1', h⟩ := h
 refine wv (OV.indexRow 2 rfl rfl rfl o7 o_1') ?_
 refine wa ?_
 refine WL.nil ?_
 refine kg (hK [(0, zP b), (2, Value.pointer (some ⟨(n9 w_1'), (((sl_1'.length : Int) - 1)).toNat * 6, none⟩))] _ ?_)
 refine a6 (fun _ hK_1' => ?_)
 refine a6 (fun _ hK_2' => ?_)
 refine a4 ?_
 refine wm ?_
 refine wv (OV.nilCheck rfl) ?_
 refine wv (OV.fieldAddr rfl x8) ?_
 refine wv (OV.loadEF (f := frC) (o := 5) 2 rfl rfl n8 (by omega) rfl b5) ?_
 refine wv (OV.lss rfl rfl) ?_
 refine WL.nil ?_
 refine kg (hK_2' [(0, zP b), (2, Value.pointer (some ⟨(n9 w_1'), (((sl_1'.length : Int) - 1)).toNat * 6, none⟩)), (18, zB (decide ((sl_1'.getD (((sl_1'.length : Int) - 1)).toNat default).2.2.2.2.2 < 0)))] _ ?_)
 refine b6 (b := decide ((sl_1'.getD (((sl_1'.length : Int) - 1)).toNat default).2.2.2.2.2 < 0)) rfl (fun hb => ?_) (fun hb => ?_)
 ·replace h := j4 h hb
  refine c9 ?_
  exact hE.ret [0, 1, 2] rfl rfl (.inl ⟨_, _, _, h, rfl⟩) (f9.none rfl)
 ·replace h := j5 h hb
  refine b7 ?_
  refine kg (hK_1' [(0, zP b), (2, Value.pointer (some ⟨(n9 w_1'), (((sl_1'.length : Int) - 1)).toNat * 6, none⟩))] _ ?_)
  obtain ⟨J0, hJ, h⟩ := h
  refine n5 (X := Value × (List ND) × (List FR)) (fun σ => J0 σ.2.1 σ.2.2) (fun σ => [(2, Value.pointer (some ⟨(n9 w_1'), (((sl_1'.length : Int) - 1)).toNat * 6, none⟩))]) (fun σ => [HA.blk b (.cells [σ.1, w_1'].toArray 52 (0, 0)), HA.row σ.1 63 261 σ.2.1.length (σ.2.1.flatMap ndC), HA.row w_1' 54 6 σ.2.2.length (σ.2.2.flatMap frC)]) ?_ (fun K0_4' hK_4' => ?_)
  ·rintro ⟨w_3', l, l_1'⟩ hj
   replace h := hJ l l_1' hj
   show WC _ _ _ _ [(2, Value.pointer (some ⟨(n9 w_1'), (((sl_1'.length : Int) - 1)).toNat * 6, none⟩))] [HA.blk b (.cells [w_3', w_1'].toArray 52 (0, 0)), HA.row w_3' 63 261 l.length (l.flatMap ndC), HA.row w_1' 54 6 l_1'.length (l_1'.flatMap frC)]
   refine a4 ?_
   refine wm ?_
   refine wv (OV.nilCheck rfl) ?_
   refine wv (OV.fieldAddr rfl x8) ?_
   obtain ⟨o_3', h⟩ := h
   refine WL.storeEF (f := frC) (o := 5) (z := ((l_1'.getD (((sl_1'.length : Int) - 1)).toNat default).1, (l_1'.getD (((sl_1'.length : Int) - 1)).toNat default).2.1, (l_1'.getD (((sl_1'.length : Int) - 1)).toNat default).2.2.1, (l_1'.getD (((sl_1'.length : Int) - 1)).toNat default).2.2.2.1, (l_1'.getD (((sl_1'.length : Int) - 1)).toNat default).2.2.2.2.1, (-1))) 2 rfl rfl rfl n8 o_3' (by decide) rfl g9 rfl rfl rfl ?_
   refine WL.nil ?_
   exact hE.norm [0, 1, 2] rfl rfl (.inl ⟨_, _, _, h, rfl⟩) (f9.none rfl)
  ·skip
   refine a6 (fun _ hK_5' => ?_)
   refine a4 ?_
   refine wm ?_
   refine wv (OV.nilCheck rfl) ?_
   refine wv (OV.fieldAddr rfl w8) ?_
   refine wv (OV.loadEF (f := frC) (o := 4) 2 rfl rfl n8 (by omega) rfl b5) ?_
   refine wv (OV.lss rfl rfl) ?_
   refine WL.nil ?_
   refine kg (hK_5' [(0, zP b), (2, Value.pointer (some ⟨(n9 w_1'), (((sl_1'.length : Int) - 1)).toNat * 6, none⟩)), (23, zB (decide ((sl_1'.getD (((sl_1'.length : Int) - 1)).toNat default).2.2.2.2.1 < 0)))] _ ?_)
   refine b6 (b := decide ((sl_1'.getD (((sl_1'.length : Int) - 1)).toNat default).2.2.2.2.1 < 0)) rfl (fun hb => ?_) (fun hb => ?_)
   ·replace h := j4 h hb
    refine a4 ?_
    refine wm ?_
    refine wm ?_
    refine wv (OV.nilCheck rfl) ?_
    refine wv (OV.fieldAddr rfl x8) ?_
    refine wv (OV.loadEF (f := frC) (o := 5) 2 rfl rfl n8 (by omega) rfl b5) ?_
    refine wv (OV.nilCheck rfl) ?_
    refine wv (OV.fieldAddr rfl w8) ?_
    refine WL.storeEF (f := frC) (o := 4) (z := ((sl_1'.getD (((sl_1'.length : Int) - 1)).toNat default).1, (sl_1'.getD (((sl_1'.length : Int) - 1)).toNat default).2.1, (sl_1'.getD (((sl_1'.length : Int) - 1)).toNat default).2.2.1, (sl_1'.getD (((sl_1'.length : Int) - 1)).toNat default).2.2.2.1, (sl_1'.getD (((sl_1'.length : Int) - 1)).toNat default).2.2.2.2.2, (sl_1'.getD (((sl_1'.length : Int) - 1)).toNat default).2.2.2.2.2)) 2 rfl rfl rfl n8 (by omega) (by decide) rfl g9 rfl rfl rfl ?_
    refine WL.nil ?_
    exact kh (hK_4' (w, sl, sl_1'.set ((((sl_1'.length : Int) - 1)).toNat) ((sl_1'.getD (((sl_1'.length : Int) - 1)).toNat default).1, (sl_1'.getD (((sl_1'.length : Int) - 1)).toNat default).2.1, (sl_1'.getD (((sl_1'.length : Int) - 1)).toNat default).2.2.1, (sl_1'.getD (((sl_1'.length : Int) - 1)).toNat default).2.2.2.1, (sl_1'.getD (((sl_1'.length : Int) - 1)).toNat default).2.2.2.2.2, (sl_1'.getD (((sl_1'.length : Int) - 1)).toNat default).2.2.2.2.2)) h) [0, 1, 2]
   ·replace h := j5 h hb
    refine x1 10 [2] [HA.row w_1' 54 6 sl_1'.length (sl_1'.flatMap frC)] rfl rfl g8 (by kernel_rfl) (fun T_2' hT_2' => ?_)
    refine TW.val (OV.move rfl) rfl rfl rfl ?_
    refine TW.val (OV.move rfl) rfl rfl rfl ?_
    refine TW.val (OV.move rfl) rfl rfl rfl ?_
    refine TW.val (OV.nilCheck rfl) rfl rfl rfl ?_
    refine TW.val (OV.fieldAddr rfl w8) rfl rfl rfl ?_
    refine TW.val (OV.loadEF (f := frC) (o := 4) 0 rfl rfl n8 (by omega) rfl b5) rfl rfl rfl ?_
    refine TW.val (OV.move rfl) rfl rfl rfl ?_
    refine TW.val (OV.nilCheck rfl) rfl rfl rfl ?_
    refine TW.val (OV.fieldAddr rfl x8) rfl rfl rfl ?_
    refine TW.val (OV.loadEF (f := frC) (o := 5) 0 rfl rfl n8 (by omega) rfl b5) rfl rfl rfl ?_
    refine TW.nil (hT_2' _ ?_)
    obtain ⟨o_4', h⟩ := h
    refine WLX.callS [0] rfl (EN.fn afp rfl) rfl (afm b w sl w_1' 2 ((sl_1'.getD (((sl_1'.length : Int) - 1)).toNat default).2.2.2.2.1) ((sl_1'.getD (((sl_1'.length : Int) - 1)).toNat default).2.2.2.2.2) o_4') rfl rfl trivial rfl rfl (fun r H' hS => ?_) (fun c H' hS => ?_)
    ·obtain ⟨w_4', ho⟩ := hS
     cases ho
     refine WLX.op [2] rfl rfl (OpK.val (OV.nilCheck rfl) rfl rfl) rfl ?_
     refine WLX.op [2] rfl rfl (OpK.val (OV.fieldAddr rfl w8) rfl rfl) rfl ?_
     refine WLX.opZ (OpK.storeEF (f := frC) (o := 4) (z := ((sl_1'.getD (((sl_1'.length : Int) - 1)).toNat default).1, (sl_1'.getD (((sl_1'.length : Int) - 1)).toNat default).2.1, (sl_1'.getD (((sl_1'.length : Int) - 1)).toNat default).2.2.1, (sl_1'.getD (((sl_1'.length : Int) - 1)).toNat default).2.2.2.1, (sl.length : Int), (sl_1'.getD (((sl_1'.length : Int) - 1)).toNat default).2.2.2.2.2)) 2 rfl rfl rfl n8 (by omega) (by decide) rfl g9 rfl rfl) rfl ?_
     refine WLX.nil ?_
     exact kh (hK_4' (w_4', sl ++ [(2, fun _ => false, (sl_1'.getD (((sl_1'.length : Int) - 1)).toNat default).2.2.2.2.1, (sl_1'.getD (((sl_1'.length : Int) - 1)).toNat default).2.2.2.2.2, 0, 0)], sl_1'.set ((((sl_1'.length : Int) - 1)).toNat) ((sl_1'.getD (((sl_1'.length : Int) - 1)).toNat default).1, (sl_1'.getD (((sl_1'.length : Int) - 1)).toNat default).2.1, (sl_1'.getD (((sl_1'.length : Int) - 1)).toNat default).2.2.1, (sl_1'.getD (((sl_1'.length : Int) - 1)).toNat default).2.2.2.1, (sl.length : Int), (sl_1'.getD (((sl_1'.length : Int) - 1)).toNat default).2.2.2.2.2)) h) [0, 1, 2]
    ·obtain ⟨w_4', ho⟩ := hS
     cases ho
theorem ai5 (b : Nat) (w1 : Value) (n : List ND) (w2 : Value) (s : List FR) (h : n.length ≤ 10000000 ∧ 0 < s.length ∧ s.length ≤ 10000) : d5 Tryd.prog 19 [.pointer (some ⟨b, 0, none⟩)] [] [stB b w1 w2, ndR w1 n, frR w2 s]
  (fun o => ∃ w n2 s2, alp n s n2 s2 ∧ o = .ret (.tuple #[]) [stB b w w2, ndR w n2, frR w2 s2]) := by
 obtain ⟨hn, hs, hs2⟩ := h
 refine (au4 b w1 w2 n s (fun n2 s2 => alp n s n2 s2) ?_).weak ?_
 ·obtain ⟨pre, f, rfl⟩ := abr hs
  unfold aie
  simp only [afq, aa2, abe]
  have hl : (pre ++ [f]).length = pre.length + 1 := by simp
  ·refine ⟨by unfold I64; omega, by omega, ?_⟩
   by_cases hf : f.2.2.2.2.2 < 0
   ·rw [if_pos (by simpa using hf)]
    refine ⟨rfl, by omega, fun a rest hr hk => ⟨?_, hk⟩⟩
    rw [y8.snoc] at hr ⊢
    obtain ⟨r1, r2, r3, r4, r5, r6⟩ := hr.1
    obtain ⟨e1, e2⟩ := r6.neg hf
    refine ⟨⟨r1, r2, r3, r4, ?_, ?_⟩, hr.2⟩
    ·show IxR n _ a.rowS
     unfold AF.rowS; rw [e1]; exact r5
    ·exact e2
   ·rw [if_neg (by simpa using hf)]
    refine ⟨fun l s2 => ∃ g : FR, s2 = pre ++ [g] ∧ l.length ≤ n.length + 1 ∧ ∀ a rest, y8 n (pre ++ [f]) (a :: rest) → NOK n → NOK l ∧ y8 l pre rest ∧ FrR l (g.1, g.2.1, g.2.2.1, g.2.2.2.1, g.2.2.2.2.1, -1) a.settle, ?_, ?_⟩
    ·rintro l s2 ⟨g, rfl, g1, g2⟩
     simp only [aa2, abe]
     refine ⟨by simp, by simp, by omega, fun a rest hr hk => ?_⟩
     obtain ⟨q1, q2, q3⟩ := g2 a rest hr hk
     exact ⟨y8.snoc.2 ⟨q3, q2⟩, q1⟩
    ·by_cases hw : f.2.2.2.2.1 < 0
     ·rw [if_pos (by simpa using hw)]
      refine ⟨_, rfl, by omega, fun a rest hr hk => ?_⟩
      rw [y8.snoc] at hr
      obtain ⟨r1, r2, r3, r4, r5, r6⟩ := hr.1
      obtain ⟨e1, _⟩ := r5.neg hw
      obtain ⟨y, e2, e3⟩ := r6.pos hf
      refine ⟨hk, hr.2, r1, r2, r3, r4, ?_, rfl⟩
      show IxR n _ a.rowS
      unfold AF.rowS; rw [e2, e1]; exact e3
     ·rw [if_neg (by simpa using hw)]
      refine ⟨by omega, _, rfl, by simp, fun a rest hr hk => ?_⟩
      rw [y8.snoc] at hr
      obtain ⟨r1, r2, r3, r4, r5, r6⟩ := hr.1
      obtain ⟨x, e1, e0⟩ := r5.pos hw
      obtain ⟨y, e2, e3⟩ := r6.pos hf
      have hd := als (op := 2) (.inl rfl) e0 e3
      refine ⟨hk.snoc hd, ali.more _ hr.2, r1, r2.more _, r3.more _, r4, ?_, rfl⟩
      show IxR _ _ a.rowS
      unfold AF.rowS; rw [e2, e1]; exact hd
 ·rintro o (⟨w, n2, s2, hK, rfl⟩ | h)
  ·exact ⟨w, n2, s2, hK, rfl⟩
  ·exact h.elim
def al8 (sl : List ND) (sl_1' : List FR) (K : (List ND) → (List FR) → Prop) : Prop :=
 (sl.length ≤ 10000000 ∧ 0 < sl_1'.length ∧ sl_1'.length ≤ 10000) ∧
 (∀ (n : List ND) (f : List FR), alp sl sl_1' n f →
  (I64 ((f.length : Int) - 1)) ∧
  (0 ≤ ((f.length : Int) - 1) ∧ ((f.length : Int) - 1) < (f.length : Int)) ∧
  ∃ (J0 : (List ND) → (List FR) → Prop),
   (∀ (l : List ND) (l_1' : List FR), J0 l l_1' →
    ∃ (J0_1' : (List ND) → (List FR) → Prop),
     (∀ (l_2' : List ND) (l_3' : List FR), J0_1' l_2' l_3' →
      ((((f.length : Int) - 1)).toNat < l_3'.length) ∧
      K l_2' (l_3'.set ((((f.length : Int) - 1)).toNat) ((l_3'.getD (((f.length : Int) - 1)).toNat default).1, (l_3'.getD (((f.length : Int) - 1)).toNat default).2.1, (l_3'.getD (((f.length : Int) - 1)).toNat default).2.2.1, (l_3'.getD (((f.length : Int) - 1)).toNat default).2.2.2.1, (-1), (l_3'.getD (((f.length : Int) - 1)).toNat default).2.2.2.2.2))) ∧
     ((((f.length : Int) - 1)).toNat < l_1'.length) ∧
     (if (decide ((l_1'.getD (((f.length : Int) - 1)).toNat default).2.2.1 < 0)) = true then
      ((((f.length : Int) - 1)).toNat < l_1'.length) ∧
      ((((f.length : Int) - 1)).toNat < l_1'.length) ∧
      J0_1' l (l_1'.set ((((f.length : Int) - 1)).toNat) ((l_1'.getD (((f.length : Int) - 1)).toNat default).1, (l_1'.getD (((f.length : Int) - 1)).toNat default).2.1, (l_1'.getD (((f.length : Int) - 1)).toNat default).2.2.2.2.1, (l_1'.getD (((f.length : Int) - 1)).toNat default).2.2.2.1, (l_1'.getD (((f.length : Int) - 1)).toNat default).2.2.2.2.1, (l_1'.getD (((f.length : Int) - 1)).toNat default).2.2.2.2.2))
     else
      ((((f.length : Int) - 1)).toNat < l_1'.length) ∧
      (if (decide ((l_1'.getD (((f.length : Int) - 1)).toNat default).2.2.2.1 = 38)) = true then
       ((((f.length : Int) - 1)).toNat < l_1'.length) ∧
       ((((f.length : Int) - 1)).toNat < l_1'.length) ∧
       (l.length ≤ 100000000) ∧
       (
        ((((f.length : Int) - 1)).toNat < l_1'.length) ∧
        J0_1' (l ++ [(5, fun _ => false, (l_1'.getD (((f.length : Int) - 1)).toNat default).2.2.1, (l_1'.getD (((f.length : Int) - 1)).toNat default).2.2.2.2.1, 0, 0)]) (l_1'.set ((((f.length : Int) - 1)).toNat) ((l_1'.getD (((f.length : Int) - 1)).toNat default).1, (l_1'.getD (((f.length : Int) - 1)).toNat default).2.1, (l.length : Int), (l_1'.getD (((f.length : Int) - 1)).toNat default).2.2.2.1, (l_1'.getD (((f.length : Int) - 1)).toNat default).2.2.2.2.1, (l_1'.getD (((f.length : Int) - 1)).toNat default).2.2.2.2.2)))
      else
       ((((f.length : Int) - 1)).toNat < l_1'.length) ∧
       ((((f.length : Int) - 1)).toNat < l_1'.length) ∧
       (l.length ≤ 100000000) ∧
       (
        ((((f.length : Int) - 1)).toNat < l_1'.length) ∧
        J0_1' (l ++ [(6, fun _ => false, (l_1'.getD (((f.length : Int) - 1)).toNat default).2.2.1, (l_1'.getD (((f.length : Int) - 1)).toNat default).2.2.2.2.1, 0, 0)]) (l_1'.set ((((f.length : Int) - 1)).toNat) ((l_1'.getD (((f.length : Int) - 1)).toNat default).1, (l_1'.getD (((f.length : Int) - 1)).toNat default).2.1, (l.length : Int), (l_1'.getD (((f.length : Int) - 1)).toNat default).2.2.2.1, (l_1'.getD (((f.length : Int) - 1)).toNat default).2.2.2.2.1, (l_1'.getD (((f.length : Int) - 1)).toNat default).2.2.2.2.2)))))) ∧
   (if (decide ((f.getD (((f.length : Int) - 1)).toNat default).2.2.2.2.1 < 0)) = true then
    (n.length ≤ 100000000) ∧
    (
     J0 (n ++ [(0, fun _ => false, 0, 0, 0, 0)]) (f.set ((((f.length : Int) - 1)).toNat) ((f.getD (((f.length : Int) - 1)).toNat default).1, (f.getD (((f.length : Int) - 1)).toNat default).2.1, (f.getD (((f.length : Int) - 1)).toNat default).2.2.1, (f.getD (((f.length : Int) - 1)).toNat default).2.2.2.1, (n.length : Int), (f.getD (((f.length : Int) - 1)).toNat default).2.2.2.2.2)))
   else
    J0 n f))
theorem ayz (b : Nat) (w : Value) (w_1' : Value) (sl : List ND) (sl_1' : List FR) (K : (List ND) → (List FR) → Prop) (h : al8 sl sl_1' K) :
  d5 Tryd.prog 18 [zP b] [] [HA.blk b (.cells [w, w_1'].toArray 52 (0, 0)), HA.row w 63 261 sl.length (sl.flatMap ndC), HA.row w_1' 54 6 sl_1'.length (sl_1'.flatMap frC)] (fun o => (∃ (w_11' : Value) (d : List ND) (d_1' : List FR), K d d_1' ∧ o = .ret (Value.tuple #[]) [HA.blk b (.cells [w_11', w_1'].toArray 52 (0, 0)), HA.row w_11' 63 261 d.length (d.flatMap ndC), HA.row w_1' 54 6 d_1'.length (d_1'.flatMap frC)]) ∨ (False)) := by
 unfold al8 at h
 refine c8 (n := 72) (L0 := [(0, zP b)]) Tryd.func18 rfl rfl rfl rfl (fun w0 M Q hE => ?_)
 refine a6 (fun _ hK => ?_)
 refine a4 ?_
 refine wm ?_
 obtain ⟨o, h⟩ := h
 refine WL.callS apo rfl (ai5 b w sl w_1' sl_1' o) rfl trivial rfl rfl (fun r H' hS => ?_) (fun c H' hS => ?_)
 ·obtain ⟨w_2', n, f, hc, ho⟩ := hS
  cases ho
  replace h := h n f hc
  refine WL.nil ?_
  refine kg (hK [(0, zP b)] _ ?_)
  refine a6 (fun _ hK_1' => ?_)
  refine q9 10 [] g8 (by kernel_rfl) rfl (fun T hT => ?_)
  refine fv (fun _ => OV.move rfl) ?_
  refine fv (fun _ => OV.nilCheck rfl) ?_
  refine fv (fun _ => OV.fieldAddr0 rfl j6) ?_
  refine fv (fun _ => OV.load rfl (At.own 0 rfl) rfl n6) ?_
  refine fv (fun _ => OV.move rfl) ?_
  refine fv (fun _ => OV.nilCheck rfl) ?_
  refine fv (fun _ => OV.fieldAddr0 rfl j6) ?_
  refine fv (fun _ => OV.load rfl (At.own 0 rfl) rfl n6) ?_
  refine fv (fun _ => OV.lenRow 2 rfl rfl o7) ?_
  obtain ⟨o_1', h⟩ := h
  refine fv (fun _ => OV.sub rfl rfl o_1') ?_
  refine FL.weak (L' := fun γ => [(0, zP b), (8, w_1'), (14, zI ((f.length : Int) - 1))]) (fun γ => ⟨rfl, rfl, rfl, trivial⟩) (FL.nil (hT (fun γ => [(0, zP b), (8, w_1'), (14, zI ((f.length : Int) - 1))]) (fun γ => ?_)))
  obtain ⟨o_2', h⟩ := h
  refine wv (OV.indexRow 2 rfl rfl rfl o7 o_2') ?_
  refine wa ?_
  refine WL.nil ?_
  refine kg (hK_1' [(0, zP b), (2, Value.pointer (some ⟨(n9 w_1'), (((f.length : Int) - 1)).toNat * 6, none⟩))] _ ?_)
  obtain ⟨J0, hJ, h⟩ := h
  refine n5 (X := Value × (List ND) × (List FR)) (fun σ => J0 σ.2.1 σ.2.2) (fun σ => [(0, zP b), (2, Value.pointer (some ⟨(n9 w_1'), (((f.length : Int) - 1)).toNat * 6, none⟩))]) (fun σ => [HA.blk b (.cells [σ.1, w_1'].toArray 52 (0, 0)), HA.row σ.1 63 261 σ.2.1.length (σ.2.1.flatMap ndC), HA.row w_1' 54 6 σ.2.2.length (σ.2.2.flatMap frC)]) ?_ (fun K0_3' hK_3' => ?_)
  ·rintro ⟨w_4', l, l_1'⟩ hj
   replace h := hJ l l_1' hj
   show WC _ _ _ _ [(0, zP b), (2, Value.pointer (some ⟨(n9 w_1'), (((f.length : Int) - 1)).toNat * 6, none⟩))] [HA.blk b (.cells [w_4', w_1'].toArray 52 (0, 0)), HA.row w_4' 63 261 l.length (l.flatMap ndC), HA.row w_1' 54 6 l_1'.length (l_1'.flatMap frC)]
   obtain ⟨J0_1', hJ_1', h⟩ := h
   refine n5 (X := Value × (List ND) × (List FR)) (fun σ => J0_1' σ.2.1 σ.2.2) (fun σ => [(2, Value.pointer (some ⟨(n9 w_1'), (((f.length : Int) - 1)).toNat * 6, none⟩))]) (fun σ => [HA.blk b (.cells [σ.1, w_1'].toArray 52 (0, 0)), HA.row σ.1 63 261 σ.2.1.length (σ.2.1.flatMap ndC), HA.row w_1' 54 6 σ.2.2.length (σ.2.2.flatMap frC)]) ?_ (fun K0_6' hK_6' => ?_)
   ·rintro ⟨w_7', l_2', l_3'⟩ hj
    replace h := hJ_1' l_2' l_3' hj
    show WC _ _ _ _ [(2, Value.pointer (some ⟨(n9 w_1'), (((f.length : Int) - 1)).toNat * 6, none⟩))] [HA.blk b (.cells [w_7', w_1'].toArray 52 (0, 0)), HA.row w_7' 63 261 l_2'.length (l_2'.flatMap ndC), HA.row w_1' 54 6 l_3'.length (l_3'.flatMap frC)]
    refine a4 ?_
    refine wm ?_
    refine wv (OV.nilCheck rfl) ?_
    refine wv (OV.fieldAddr rfl w8) ?_
    obtain ⟨o_16', h⟩ := h
    refine WL.storeEF (f := frC) (o := 4) (z := ((l_3'.getD (((f.length : Int) - 1)).toNat default).1, (l_3'.getD (((f.length : Int) - 1)).toNat default).2.1, (l_3'.getD (((f.length : Int) - 1)).toNat default).2.2.1, (l_3'.getD (((f.length : Int) - 1)).toNat default).2.2.2.1, (-1), (l_3'.getD (((f.length : Int) - 1)).toNat default).2.2.2.2.2)) 2 rfl rfl rfl n8 o_16' (by decide) rfl g9 rfl rfl rfl ?_
    refine WL.nil ?_
    exact hE.norm [0, 1, 2] rfl rfl (.inl ⟨_, _, _, h, rfl⟩) (f9.none rfl)
   ·skip
    refine a6 (fun _ hK_7' => ?_)
    refine a4 ?_
    refine wm ?_
    refine wv (OV.nilCheck rfl) ?_
    refine wv (OV.fieldAddr rfl x7) ?_
    obtain ⟨o_17', h⟩ := h
    refine wv (OV.loadEF (f := frC) (o := 2) 2 rfl rfl n8 o_17' rfl b5) ?_
    refine wv (OV.lss rfl rfl) ?_
    refine WL.nil ?_
    refine kg (hK_7' [(0, zP b), (2, Value.pointer (some ⟨(n9 w_1'), (((f.length : Int) - 1)).toNat * 6, none⟩)), (30, zB (decide ((l_1'.getD (((f.length : Int) - 1)).toNat default).2.2.1 < 0)))] _ ?_)
    refine b6 (b := decide ((l_1'.getD (((f.length : Int) - 1)).toNat default).2.2.1 < 0)) rfl (fun hb => ?_) (fun hb => ?_)
    ·replace h := j4 h hb
     refine a4 ?_
     refine wm ?_
     refine wm ?_
     refine wv (OV.nilCheck rfl) ?_
     refine wv (OV.fieldAddr rfl w8) ?_
     obtain ⟨o_18', h⟩ := h
     refine wv (OV.loadEF (f := frC) (o := 4) 2 rfl rfl n8 o_18' rfl b5) ?_
     refine wv (OV.nilCheck rfl) ?_
     refine wv (OV.fieldAddr rfl x7) ?_
     obtain ⟨o_19', h⟩ := h
     refine WL.storeEF (f := frC) (o := 2) (z := ((l_1'.getD (((f.length : Int) - 1)).toNat default).1, (l_1'.getD (((f.length : Int) - 1)).toNat default).2.1, (l_1'.getD (((f.length : Int) - 1)).toNat default).2.2.2.2.1, (l_1'.getD (((f.length : Int) - 1)).toNat default).2.2.2.1, (l_1'.getD (((f.length : Int) - 1)).toNat default).2.2.2.2.1, (l_1'.getD (((f.length : Int) - 1)).toNat default).2.2.2.2.2)) 2 rfl rfl rfl n8 o_19' (by decide) rfl g9 rfl rfl rfl ?_
     refine WL.nil ?_
     exact kh (hK_6' (w_4', l, l_1'.set ((((f.length : Int) - 1)).toNat) ((l_1'.getD (((f.length : Int) - 1)).toNat default).1, (l_1'.getD (((f.length : Int) - 1)).toNat default).2.1, (l_1'.getD (((f.length : Int) - 1)).toNat default).2.2.2.2.1, (l_1'.getD (((f.length : Int) - 1)).toNat default).2.2.2.1, (l_1'.getD (((f.length : Int) - 1)).toNat default).2.2.2.2.1, (l_1'.getD (((f.length : Int) - 1)).toNat default).2.2.2.2.2)) h) [0, 1, 2]
    ·replace h := j5 h hb
     refine a6 (fun _ hK_8' => ?_)
     refine a4 ?_
     refine wm ?_
     refine wv (OV.nilCheck rfl) ?_
     refine wv (OV.fieldAddr rfl ahv) ?_
     obtain ⟨o_20', h⟩ := h
     refine wv (OV.loadEF (f := frC) (o := 3) 2 rfl rfl n8 o_20' rfl acz) ?_
     refine wv (OV.eql rfl rfl) ?_
     refine WL.nil ?_
     refine kg (hK_8' [(0, zP b), (2, Value.pointer (some ⟨(n9 w_1'), (((f.length : Int) - 1)).toNat * 6, none⟩)), (42, zB (decide ((l_1'.getD (((f.length : Int) - 1)).toNat default).2.2.2.1 = 38)))] _ ?_)
     refine b6 (b := decide ((l_1'.getD (((f.length : Int) - 1)).toNat default).2.2.2.1 = 38)) rfl (fun hb => ?_) (fun hb => ?_)
     ·replace h := j4 h hb
      refine x1 10 [2] [HA.row w_1' 54 6 l_1'.length (l_1'.flatMap frC)] rfl rfl g8 (by kernel_rfl) (fun T_3' hT_3' => ?_)
      refine TW.val (OV.move rfl) rfl rfl rfl ?_
      refine TW.val (OV.move rfl) rfl rfl rfl ?_
      refine TW.val (OV.move rfl) rfl rfl rfl ?_
      refine TW.val (OV.nilCheck rfl) rfl rfl rfl ?_
      refine TW.val (OV.fieldAddr rfl x7) rfl rfl rfl ?_
      obtain ⟨o_21', h⟩ := h
      refine TW.val (OV.loadEF (f := frC) (o := 2) 0 rfl rfl n8 o_21' rfl b5) rfl rfl rfl ?_
      refine TW.val (OV.move rfl) rfl rfl rfl ?_
      refine TW.val (OV.nilCheck rfl) rfl rfl rfl ?_
      refine TW.val (OV.fieldAddr rfl w8) rfl rfl rfl ?_
      obtain ⟨o_22', h⟩ := h
      refine TW.val (OV.loadEF (f := frC) (o := 4) 0 rfl rfl n8 o_22' rfl b5) rfl rfl rfl ?_
      refine TW.nil (hT_3' _ ?_)
      obtain ⟨o_23', h⟩ := h
      refine WLX.callS [0] rfl (EN.fn afp rfl) rfl (afm b w_4' l w_1' 5 ((l_1'.getD (((f.length : Int) - 1)).toNat default).2.2.1) ((l_1'.getD (((f.length : Int) - 1)).toNat default).2.2.2.2.1) o_23') rfl rfl trivial rfl rfl (fun r H' hS => ?_) (fun c H' hS => ?_)
      ·obtain ⟨w_8', ho⟩ := hS
       cases ho
       refine WLX.op [2] rfl rfl (OpK.val (OV.nilCheck rfl) rfl rfl) rfl ?_
       refine WLX.op [2] rfl rfl (OpK.val (OV.fieldAddr rfl x7) rfl rfl) rfl ?_
       obtain ⟨o_24', h⟩ := h
       refine WLX.opZ (OpK.storeEF (f := frC) (o := 2) (z := ((l_1'.getD (((f.length : Int) - 1)).toNat default).1, (l_1'.getD (((f.length : Int) - 1)).toNat default).2.1, (l.length : Int), (l_1'.getD (((f.length : Int) - 1)).toNat default).2.2.2.1, (l_1'.getD (((f.length : Int) - 1)).toNat default).2.2.2.2.1, (l_1'.getD (((f.length : Int) - 1)).toNat default).2.2.2.2.2)) 2 rfl rfl rfl n8 o_24' (by decide) rfl g9 rfl rfl) rfl ?_
       refine WLX.nil ?_
       exact kh (hK_6' (w_8', l ++ [(5, fun _ => false, (l_1'.getD (((f.length : Int) - 1)).toNat default).2.2.1, (l_1'.getD (((f.length : Int) - 1)).toNat default).2.2.2.2.1, 0, 0)], l_1'.set ((((f.length : Int) - 1)).toNat) ((l_1'.getD (((f.length : Int) - 1)).toNat default).1, (l_1'.getD (((f.length : Int) - 1)).toNat default).2.1, (l.length : Int), (l_1'.getD (((f.length : Int) - 1)).toNat default).2.2.2.1, (l_1'.getD (((f.length : Int) - 1)).toNat default).2.2.2.2.1, (l_1'.getD (((f.length : Int) - 1)).toNat default).2.2.2.2.2)) h) [0, 1, 2]
      ·obtain ⟨w_8', ho⟩ := hS
       cases ho
     ·replace h := j5 h hb
      refine x1 10 [2] [HA.row w_1' 54 6 l_1'.length (l_1'.flatMap frC)] rfl rfl g8 (by kernel_rfl) (fun T_4' hT_4' => ?_)
      refine TW.val (OV.move rfl) rfl rfl rfl ?_
      refine TW.val (OV.move rfl) rfl rfl rfl ?_
      refine TW.val (OV.move rfl) rfl rfl rfl ?_
      refine TW.val (OV.nilCheck rfl) rfl rfl rfl ?_
      refine TW.val (OV.fieldAddr rfl x7) rfl rfl rfl ?_
      obtain ⟨o_25', h⟩ := h
      refine TW.val (OV.loadEF (f := frC) (o := 2) 0 rfl rfl n8 o_25' rfl b5) rfl rfl rfl ?_
      refine TW.val (OV.move rfl) rfl rfl rfl ?_
      refine TW.val (OV.nilCheck rfl) rfl rfl rfl ?_
      refine TW.val (OV.fieldAddr rfl w8) rfl rfl rfl ?_
      obtain ⟨o_26', h⟩ := h
      refine TW.val (OV.loadEF (f := frC) (o := 4) 0 rfl rfl n8 o_26' rfl b5) rfl rfl rfl ?_
      refine TW.nil (hT_4' _ ?_)
      obtain ⟨o_27', h⟩ := h
      refine WLX.callS [0] rfl (EN.fn afp rfl) rfl (afm b w_4' l w_1' 6 ((l_1'.getD (((f.length : Int) - 1)).toNat default).2.2.1) ((l_1'.getD (((f.length : Int) - 1)).toNat default).2.2.2.2.1) o_27') rfl rfl trivial rfl rfl (fun r H' hS => ?_) (fun c H' hS => ?_)
      ·obtain ⟨w_9', ho⟩ := hS
       cases ho
       refine WLX.op [2] rfl rfl (OpK.val (OV.nilCheck rfl) rfl rfl) rfl ?_
       refine WLX.op [2] rfl rfl (OpK.val (OV.fieldAddr rfl x7) rfl rfl) rfl ?_
       obtain ⟨o_28', h⟩ := h
       refine WLX.opZ (OpK.storeEF (f := frC) (o := 2) (z := ((l_1'.getD (((f.length : Int) - 1)).toNat default).1, (l_1'.getD (((f.length : Int) - 1)).toNat default).2.1, (l.length : Int), (l_1'.getD (((f.length : Int) - 1)).toNat default).2.2.2.1, (l_1'.getD (((f.length : Int) - 1)).toNat default).2.2.2.2.1, (l_1'.getD (((f.length : Int) - 1)).toNat default).2.2.2.2.2)) 2 rfl rfl rfl n8 o_28' (by decide) rfl g9 rfl rfl) rfl ?_
       refine WLX.nil ?_
       exact kh (hK_6' (w_9', l ++ [(6, fun _ => false, (l_1'.getD (((f.length : Int) - 1)).toNat default).2.2.1, (l_1'.getD (((f.length : Int) - 1)).toNat default).2.2.2.2.1, 0, 0)], l_1'.set ((((f.length : Int) - 1)).toNat) ((l_1'.getD (((f.length : Int) - 1)).toNat default).1, (l_1'.getD (((f.length : Int) - 1)).toNat default).2.1, (l.length : Int), (l_1'.getD (((f.length : Int) - 1)).toNat default).2.2.2.1, (l_1'.getD (((f.length : Int) - 1)).toNat default).2.2.2.2.1, (l_1'.getD (((f.length : Int) - 1)).toNat default).2.2.2.2.2)) h) [0, 1, 2]
      ·obtain ⟨w_9', ho⟩ := hS
       cases ho
  ·skip
   refine a6 (fun _ hK_9' => ?_)
   refine a4 ?_
   refine wm ?_
   refine wv (OV.nilCheck rfl) ?_
   refine wv (OV.fieldAddr rfl w8) ?_
   refine wv (OV.loadEF (f := frC) (o := 4) 2 rfl rfl n8 (by omega) rfl b5) ?_
   refine wv (OV.lss rfl rfl) ?_
   refine WL.nil ?_
   refine kg (hK_9' [(0, zP b), (2, Value.pointer (some ⟨(n9 w_1'), (((f.length : Int) - 1)).toNat * 6, none⟩)), (20, zB (decide ((f.getD (((f.length : Int) - 1)).toNat default).2.2.2.2.1 < 0)))] _ ?_)
   refine b6 (b := decide ((f.getD (((f.length : Int) - 1)).toNat default).2.2.2.2.1 < 0)) rfl (fun hb => ?_) (fun hb => ?_)
   ·replace h := j4 h hb
    refine a4 ?_
    refine wm ?_
    refine wm ?_
    obtain ⟨o_29', h⟩ := h
    refine WL.callS afp rfl (afm b w_2' n w_1' 0 0 0 o_29') rfl trivial rfl rfl (fun r H' hS => ?_) (fun c H' hS => ?_)
    ·obtain ⟨w_10', ho⟩ := hS
     cases ho
     refine wv (OV.nilCheck rfl) ?_
     refine wv (OV.fieldAddr rfl w8) ?_
     refine WL.storeEF (f := frC) (o := 4) (z := ((f.getD (((f.length : Int) - 1)).toNat default).1, (f.getD (((f.length : Int) - 1)).toNat default).2.1, (f.getD (((f.length : Int) - 1)).toNat default).2.2.1, (f.getD (((f.length : Int) - 1)).toNat default).2.2.2.1, (n.length : Int), (f.getD (((f.length : Int) - 1)).toNat default).2.2.2.2.2)) 2 rfl rfl rfl n8 (by omega) (by decide) rfl g9 rfl rfl rfl ?_
     refine WL.nil ?_
     exact kh (hK_3' (w_10', n ++ [(0, fun _ => false, 0, 0, 0, 0)], f.set ((((f.length : Int) - 1)).toNat) ((f.getD (((f.length : Int) - 1)).toNat default).1, (f.getD (((f.length : Int) - 1)).toNat default).2.1, (f.getD (((f.length : Int) - 1)).toNat default).2.2.1, (f.getD (((f.length : Int) - 1)).toNat default).2.2.2.1, (n.length : Int), (f.getD (((f.length : Int) - 1)).toNat default).2.2.2.2.2)) h) [0, 1, 2]
    ·obtain ⟨w_10', ho⟩ := hS
     cases ho
   ·replace h := j5 h hb
    refine b7 ?_
    exact kh (hK_3' (w_2', n, f) h) [0, 1, 2]
 ·obtain ⟨w_2', n, f, hc, ho⟩ := hS
  cases ho
theorem anh (b : Nat) (w1 : Value) (n : List ND) (w2 : Value) (s : List FR) (h : n.length ≤ 10000000 ∧ 0 < s.length ∧ s.length ≤ 10000) : d5 Tryd.prog 18 [.pointer (some ⟨b, 0, none⟩)] [] [stB b w1 w2, ndR w1 n, frR w2 s]
  (fun o => ∃ w n2 s2, avs n s n2 s2 ∧ o = .ret (.tuple #[]) [stB b w w2, ndR w n2, frR w2 s2]) := by
 obtain ⟨hn, hs, hs2⟩ := h
 refine (ayz b w1 w2 n s (fun n2 s2 => avs n s n2 s2) ?_).weak ?_
 ·unfold al8
  refine ⟨⟨hn, hs, hs2⟩, ?_⟩
  rintro n1 s1 ⟨l1, l2, l3⟩
  obtain ⟨pre, f, rfl⟩ := abr (s := s1) (by omega)
  simp only [afq, aa2, abe]
  refine ⟨by unfold I64; omega, by omega, ?_⟩
  refine ⟨fun l s2 => ∃ g : FR, s2 = pre ++ [g] ∧ l.length ≤ n.length + 2 ∧ ∀ a rest, y8 n s (a :: rest) → NOK n → NOK l ∧ y8 l pre rest ∧ g.1 = a.place ∧ IxR l g.2.1 a.alt ∧ IxR l g.2.2.1 a.meet ∧ g.2.2.2.1 = a.sign ∧ Den l g.2.2.2.2.1 a.rowT ∧ g.2.2.2.2.2 = -1, ?_, ?_⟩
  ·rintro l s2 ⟨g, rfl, g1, g2⟩
   simp only [aa2, abe]
   have hpl : pre.length < (pre ++ [g]).length := by simp
   refine ⟨fun l' s3 => ∃ q : FR, s3 = pre ++ [q] ∧ l'.length ≤ n.length + 3 ∧ ∀ a rest, y8 n s (a :: rest) → NOK n → NOK l' ∧ y8 l' pre rest ∧ FrR l' (q.1, q.2.1, q.2.2.1, q.2.2.2.1, -1, q.2.2.2.2.2) a.fold, ?_, hpl, ?_⟩
   ·rintro l' s3 ⟨q, rfl, q1, q2⟩
    simp only [aa2, abe]
    refine ⟨by simp, by simp only [List.length_append, List.length_cons, List.length_nil] at l1 ⊢; omega, by omega, fun a rest hr hk => ?_⟩
    obtain ⟨e1, e2, e3⟩ := q2 a rest hr hk
    exact ⟨y8.snoc.2 ⟨e3, e2⟩, e1⟩
   ·by_cases hm : g.2.2.1 < 0
    ·rw [if_pos (by simpa using hm)]
     refine ⟨hpl, hpl, _, rfl, by omega, fun a rest hr hk => ?_⟩
     obtain ⟨r0, r1, r2, r3, r4, r5, r6, r7⟩ := g2 a rest hr hk
     refine ⟨r0, r1, r2, r3, ?_, r5, rfl, r7⟩
     show IxR l _ (some (af9 a a.rowT))
     unfold af9; rw [(r4.neg hm).1]; exact r6
    ·rw [if_neg (by simpa using hm)]
     have key : ∀ op : Int, (op = 5 ∨ op = 6) → (∀ a rest, y8 n s (a :: rest) → NOK n → op = if a.sign = 38 then 5 else 6) → ∃ q : FR, pre ++ [(g.1, g.2.1, (l.length : Int), g.2.2.2.1, g.2.2.2.2.1, g.2.2.2.2.2)] = pre ++ [q] ∧ (l ++ [(op, fun _ => false, g.2.2.1, g.2.2.2.2.1, 0, 0)]).length ≤ n.length + 3 ∧ ∀ a rest, y8 n s (a :: rest) → NOK n → NOK (l ++ [(op, fun _ => false, g.2.2.1, g.2.2.2.2.1, 0, 0)]) ∧ y8 (l ++ [(op, fun _ => false, g.2.2.1, g.2.2.2.2.1, 0, 0)]) pre rest ∧ FrR (l ++ [(op, fun _ => false, g.2.2.1, g.2.2.2.2.1, 0, 0)]) (q.1, q.2.1, q.2.2.1, q.2.2.2.1, -1, q.2.2.2.2.2) a.fold := by
      intro op ho hsig
      refine ⟨_, rfl, by simp; omega, fun a rest hr hk => ?_⟩
      obtain ⟨r0, r1, r2, r3, r4, r5, r6, r7⟩ := g2 a rest hr hk
      obtain ⟨z, e1, e2⟩ := r4.pos hm
      have hd := als (op := op) (by omega) e2 r6
      refine ⟨r0.snoc hd, ali.more _ r1, r2, r3.more _, ?_, r5, rfl, r7⟩
      show IxR _ _ (some (af9 a a.rowT))
      have : af9 a a.rowT = ag3 op z a.rowT := by
       have h0 := hsig a rest hr hk
       unfold af9 ary ag3
       rw [e1]
       simp only
       by_cases hsg : a.sign = 38
       ·rw [if_pos hsg] at h0 ⊢; subst h0; rfl
       ·rw [if_neg hsg] at h0 ⊢; subst h0; rfl
      rw [this]; exact hd
     refine ⟨hpl, ?_⟩
     by_cases hg : g.2.2.2.1 = 38
     ·rw [if_pos (by simpa using hg)]
      exact ⟨hpl, hpl, by omega, hpl, key 5 (.inl rfl) fun a rest hr hk => by rw [if_pos (by rw [← (g2 a rest hr hk).2.2.2.2.2.1]; exact hg)]⟩
     ·rw [if_neg (by simpa using hg)]
      exact ⟨hpl, hpl, by omega, hpl, key 6 (.inr rfl) fun a rest hr hk => by rw [if_neg (by rw [← (g2 a rest hr hk).2.2.2.2.2.1]; exact hg)]⟩
  ·by_cases hw : f.2.2.2.2.1 < 0
   ·rw [if_pos (by simpa using hw)]
    refine ⟨by omega, _, rfl, by simp; omega, fun a rest hr hk => ?_⟩
    obtain ⟨k1, k2⟩ := l3 a rest hr hk
    rw [y8.snoc] at k1
    obtain ⟨r1, r2, r3, r4, r5, r6⟩ := k1.1
    refine ⟨k2.snoc (arf _), ali.more _ k1.2, r1, r2.more _, r3.more _, r4, ?_, r6⟩
    have : a.rowT = .eps := by
     have h0 := (r5.neg hw).1
     unfold AF.rowT
     rw [show a.rowS = none from h0]; rfl
    rw [this]; exact arf _
   ·rw [if_neg (by simpa using hw)]
    refine ⟨_, rfl, by omega, fun a rest hr hk => ?_⟩
    obtain ⟨k1, k2⟩ := l3 a rest hr hk
    rw [y8.snoc] at k1
    obtain ⟨r1, r2, r3, r4, r5, r6⟩ := k1.1
    obtain ⟨x, e1, e2⟩ := r5.pos hw
    refine ⟨k2, k1.2, r1, r2, r3, r4, ?_, r6⟩
    have : a.rowT = x := by
     unfold AF.rowT
     rw [show a.rowS = some x from e1]; rfl
    rw [this]; exact e2
 ·rintro o (⟨w, n2, s2, hK, rfl⟩ | h)
  ·exact ⟨w, n2, s2, hK, rfl⟩
  ·exact h.elim
def akd (sl : List ND) (sl_1' : List FR) (K : (List ND) → (List FR) → Prop) : Prop :=
 (sl.length ≤ 10000000 ∧ 0 < sl_1'.length ∧ sl_1'.length ≤ 10000) ∧
 (∀ (n : List ND) (f : List FR), avs sl sl_1' n f →
  (I64 ((f.length : Int) - 1)) ∧
  (0 ≤ ((f.length : Int) - 1) ∧ ((f.length : Int) - 1) < (f.length : Int)) ∧
  ∃ (J0 : (List ND) → (List FR) → Prop),
   (∀ (l : List ND) (l_1' : List FR), J0 l l_1' →
    ((((f.length : Int) - 1)).toNat < l_1'.length) ∧
    K l (l_1'.set ((((f.length : Int) - 1)).toNat) ((l_1'.getD (((f.length : Int) - 1)).toNat default).1, (l_1'.getD (((f.length : Int) - 1)).toNat default).2.1, (-1), (l_1'.getD (((f.length : Int) - 1)).toNat default).2.2.2.1, (l_1'.getD (((f.length : Int) - 1)).toNat default).2.2.2.2.1, (l_1'.getD (((f.length : Int) - 1)).toNat default).2.2.2.2.2))) ∧
   (if (decide ((f.getD (((f.length : Int) - 1)).toNat default).2.1 < 0)) = true then
    J0 n (f.set ((((f.length : Int) - 1)).toNat) ((f.getD (((f.length : Int) - 1)).toNat default).1, (f.getD (((f.length : Int) - 1)).toNat default).2.2.1, (f.getD (((f.length : Int) - 1)).toNat default).2.2.1, (f.getD (((f.length : Int) - 1)).toNat default).2.2.2.1, (f.getD (((f.length : Int) - 1)).toNat default).2.2.2.2.1, (f.getD (((f.length : Int) - 1)).toNat default).2.2.2.2.2))
   else
    (n.length ≤ 100000000) ∧
    (
     J0 (n ++ [(3, fun _ => false, (f.getD (((f.length : Int) - 1)).toNat default).2.1, (f.getD (((f.length : Int) - 1)).toNat default).2.2.1, 0, 0)]) (f.set ((((f.length : Int) - 1)).toNat) ((f.getD (((f.length : Int) - 1)).toNat default).1, (n.length : Int), (f.getD (((f.length : Int) - 1)).toNat default).2.2.1, (f.getD (((f.length : Int) - 1)).toNat default).2.2.2.1, (f.getD (((f.length : Int) - 1)).toNat default).2.2.2.2.1, (f.getD (((f.length : Int) - 1)).toNat default).2.2.2.2.2)))))
theorem ax2 (b : Nat) (w : Value) (w_1' : Value) (sl : List ND) (sl_1' : List FR) (K : (List ND) → (List FR) → Prop) (h : akd sl sl_1' K) :
  d5 Tryd.prog 17 [zP b] [] [HA.blk b (.cells [w, w_1'].toArray 52 (0, 0)), HA.row w 63 261 sl.length (sl.flatMap ndC), HA.row w_1' 54 6 sl_1'.length (sl_1'.flatMap frC)] (fun o => (∃ (w_6' : Value) (d : List ND) (d_1' : List FR), K d d_1' ∧ o = .ret (Value.tuple #[]) [HA.blk b (.cells [w_6', w_1'].toArray 52 (0, 0)), HA.row w_6' 63 261 d.length (d.flatMap ndC), HA.row w_1' 54 6 d_1'.length (d_1'.flatMap frC)]) ∨ (False)) := by
 unfold akd at h
 refine c8 (n := 44) (L0 := [(0, zP b)]) Tryd.func17 rfl rfl rfl rfl (fun w0 M Q hE => ?_)
 refine a6 (fun _ hK => ?_)
 refine a4 ?_
 refine wm ?_
 obtain ⟨o, h⟩ := h
 refine WL.callS apl rfl (anh b w sl w_1' sl_1' o) rfl trivial rfl rfl (fun r H' hS => ?_) (fun c H' hS => ?_)
 ·obtain ⟨w_2', n, f, hc, ho⟩ := hS
  cases ho
  replace h := h n f hc
  refine WL.nil ?_
  refine kg (hK [(0, zP b)] _ ?_)
  refine a6 (fun _ hK_1' => ?_)
  refine q9 10 [] g8 (by kernel_rfl) rfl (fun T hT => ?_)
  refine fv (fun _ => OV.move rfl) ?_
  refine fv (fun _ => OV.nilCheck rfl) ?_
  refine fv (fun _ => OV.fieldAddr0 rfl j6) ?_
  refine fv (fun _ => OV.load rfl (At.own 0 rfl) rfl n6) ?_
  refine fv (fun _ => OV.move rfl) ?_
  refine fv (fun _ => OV.nilCheck rfl) ?_
  refine fv (fun _ => OV.fieldAddr0 rfl j6) ?_
  refine fv (fun _ => OV.load rfl (At.own 0 rfl) rfl n6) ?_
  refine fv (fun _ => OV.lenRow 2 rfl rfl o7) ?_
  obtain ⟨o_1', h⟩ := h
  refine fv (fun _ => OV.sub rfl rfl o_1') ?_
  refine FL.weak (L' := fun γ => [(0, zP b), (8, w_1'), (14, zI ((f.length : Int) - 1))]) (fun γ => ⟨rfl, rfl, rfl, trivial⟩) (FL.nil (hT (fun γ => [(0, zP b), (8, w_1'), (14, zI ((f.length : Int) - 1))]) (fun γ => ?_)))
  obtain ⟨o_2', h⟩ := h
  refine wv (OV.indexRow 2 rfl rfl rfl o7 o_2') ?_
  refine wa ?_
  refine WL.nil ?_
  refine kg (hK_1' [(0, zP b), (2, Value.pointer (some ⟨(n9 w_1'), (((f.length : Int) - 1)).toNat * 6, none⟩))] _ ?_)
  obtain ⟨J0, hJ, h⟩ := h
  refine n5 (X := Value × (List ND) × (List FR)) (fun σ => J0 σ.2.1 σ.2.2) (fun σ => [(2, Value.pointer (some ⟨(n9 w_1'), (((f.length : Int) - 1)).toNat * 6, none⟩))]) (fun σ => [HA.blk b (.cells [σ.1, w_1'].toArray 52 (0, 0)), HA.row σ.1 63 261 σ.2.1.length (σ.2.1.flatMap ndC), HA.row w_1' 54 6 σ.2.2.length (σ.2.2.flatMap frC)]) ?_ (fun K0_3' hK_3' => ?_)
  ·rintro ⟨w_4', l, l_1'⟩ hj
   replace h := hJ l l_1' hj
   show WC _ _ _ _ [(2, Value.pointer (some ⟨(n9 w_1'), (((f.length : Int) - 1)).toNat * 6, none⟩))] [HA.blk b (.cells [w_4', w_1'].toArray 52 (0, 0)), HA.row w_4' 63 261 l.length (l.flatMap ndC), HA.row w_1' 54 6 l_1'.length (l_1'.flatMap frC)]
   refine a4 ?_
   refine wm ?_
   refine wv (OV.nilCheck rfl) ?_
   refine wv (OV.fieldAddr rfl x7) ?_
   obtain ⟨o_4', h⟩ := h
   refine WL.storeEF (f := frC) (o := 2) (z := ((l_1'.getD (((f.length : Int) - 1)).toNat default).1, (l_1'.getD (((f.length : Int) - 1)).toNat default).2.1, (-1), (l_1'.getD (((f.length : Int) - 1)).toNat default).2.2.2.1, (l_1'.getD (((f.length : Int) - 1)).toNat default).2.2.2.2.1, (l_1'.getD (((f.length : Int) - 1)).toNat default).2.2.2.2.2)) 2 rfl rfl rfl n8 o_4' (by decide) rfl g9 rfl rfl rfl ?_
   refine WL.nil ?_
   exact hE.norm [0, 1, 2] rfl rfl (.inl ⟨_, _, _, h, rfl⟩) (f9.none rfl)
  ·skip
   refine a6 (fun _ hK_4' => ?_)
   refine a4 ?_
   refine wm ?_
   refine wv (OV.nilCheck rfl) ?_
   refine wv (OV.fieldAddr rfl abc) ?_
   refine wv (OV.loadEF (f := frC) (o := 1) 2 rfl rfl n8 (by omega) rfl b5) ?_
   refine wv (OV.lss rfl rfl) ?_
   refine WL.nil ?_
   refine kg (hK_4' [(0, zP b), (2, Value.pointer (some ⟨(n9 w_1'), (((f.length : Int) - 1)).toNat * 6, none⟩)), (20, zB (decide ((f.getD (((f.length : Int) - 1)).toNat default).2.1 < 0)))] _ ?_)
   refine b6 (b := decide ((f.getD (((f.length : Int) - 1)).toNat default).2.1 < 0)) rfl (fun hb => ?_) (fun hb => ?_)
   ·replace h := j4 h hb
    refine a4 ?_
    refine wm ?_
    refine wm ?_
    refine wv (OV.nilCheck rfl) ?_
    refine wv (OV.fieldAddr rfl x7) ?_
    refine wv (OV.loadEF (f := frC) (o := 2) 2 rfl rfl n8 (by omega) rfl b5) ?_
    refine wv (OV.nilCheck rfl) ?_
    refine wv (OV.fieldAddr rfl abc) ?_
    refine WL.storeEF (f := frC) (o := 1) (z := ((f.getD (((f.length : Int) - 1)).toNat default).1, (f.getD (((f.length : Int) - 1)).toNat default).2.2.1, (f.getD (((f.length : Int) - 1)).toNat default).2.2.1, (f.getD (((f.length : Int) - 1)).toNat default).2.2.2.1, (f.getD (((f.length : Int) - 1)).toNat default).2.2.2.2.1, (f.getD (((f.length : Int) - 1)).toNat default).2.2.2.2.2)) 2 rfl rfl rfl n8 (by omega) (by decide) rfl g9 rfl rfl rfl ?_
    refine WL.nil ?_
    exact kh (hK_3' (w_2', n, f.set ((((f.length : Int) - 1)).toNat) ((f.getD (((f.length : Int) - 1)).toNat default).1, (f.getD (((f.length : Int) - 1)).toNat default).2.2.1, (f.getD (((f.length : Int) - 1)).toNat default).2.2.1, (f.getD (((f.length : Int) - 1)).toNat default).2.2.2.1, (f.getD (((f.length : Int) - 1)).toNat default).2.2.2.2.1, (f.getD (((f.length : Int) - 1)).toNat default).2.2.2.2.2)) h) [0, 1, 2]
   ·replace h := j5 h hb
    refine x1 10 [2] [HA.row w_1' 54 6 f.length (f.flatMap frC)] rfl rfl g8 (by kernel_rfl) (fun T_2' hT_2' => ?_)
    refine TW.val (OV.move rfl) rfl rfl rfl ?_
    refine TW.val (OV.move rfl) rfl rfl rfl ?_
    refine TW.val (OV.move rfl) rfl rfl rfl ?_
    refine TW.val (OV.nilCheck rfl) rfl rfl rfl ?_
    refine TW.val (OV.fieldAddr rfl abc) rfl rfl rfl ?_
    refine TW.val (OV.loadEF (f := frC) (o := 1) 0 rfl rfl n8 (by omega) rfl b5) rfl rfl rfl ?_
    refine TW.val (OV.move rfl) rfl rfl rfl ?_
    refine TW.val (OV.nilCheck rfl) rfl rfl rfl ?_
    refine TW.val (OV.fieldAddr rfl x7) rfl rfl rfl ?_
    refine TW.val (OV.loadEF (f := frC) (o := 2) 0 rfl rfl n8 (by omega) rfl b5) rfl rfl rfl ?_
    refine TW.nil (hT_2' _ ?_)
    obtain ⟨o_5', h⟩ := h
    refine WLX.callS [0] rfl (EN.fn afp rfl) rfl (afm b w_2' n w_1' 3 ((f.getD (((f.length : Int) - 1)).toNat default).2.1) ((f.getD (((f.length : Int) - 1)).toNat default).2.2.1) o_5') rfl rfl trivial rfl rfl (fun r H' hS => ?_) (fun c H' hS => ?_)
    ·obtain ⟨w_5', ho⟩ := hS
     cases ho
     refine WLX.op [2] rfl rfl (OpK.val (OV.nilCheck rfl) rfl rfl) rfl ?_
     refine WLX.op [2] rfl rfl (OpK.val (OV.fieldAddr rfl abc) rfl rfl) rfl ?_
     refine WLX.opZ (OpK.storeEF (f := frC) (o := 1) (z := ((f.getD (((f.length : Int) - 1)).toNat default).1, (n.length : Int), (f.getD (((f.length : Int) - 1)).toNat default).2.2.1, (f.getD (((f.length : Int) - 1)).toNat default).2.2.2.1, (f.getD (((f.length : Int) - 1)).toNat default).2.2.2.2.1, (f.getD (((f.length : Int) - 1)).toNat default).2.2.2.2.2)) 2 rfl rfl rfl n8 (by omega) (by decide) rfl g9 rfl rfl) rfl ?_
     refine WLX.nil ?_
     exact kh (hK_3' (w_5', n ++ [(3, fun _ => false, (f.getD (((f.length : Int) - 1)).toNat default).2.1, (f.getD (((f.length : Int) - 1)).toNat default).2.2.1, 0, 0)], f.set ((((f.length : Int) - 1)).toNat) ((f.getD (((f.length : Int) - 1)).toNat default).1, (n.length : Int), (f.getD (((f.length : Int) - 1)).toNat default).2.2.1, (f.getD (((f.length : Int) - 1)).toNat default).2.2.2.1, (f.getD (((f.length : Int) - 1)).toNat default).2.2.2.2.1, (f.getD (((f.length : Int) - 1)).toNat default).2.2.2.2.2)) h) [0, 1, 2]
    ·obtain ⟨w_5', ho⟩ := hS
     cases ho
 ·obtain ⟨w_2', n, f, hc, ho⟩ := hS
  cases ho
theorem agr (b : Nat) (w1 : Value) (n : List ND) (w2 : Value) (s : List FR) (h : n.length ≤ 10000000 ∧ 0 < s.length ∧ s.length ≤ 10000) : d5 Tryd.prog 17 [.pointer (some ⟨b, 0, none⟩)] [] [stB b w1 w2, ndR w1 n, frR w2 s]
  (fun o => ∃ w n2 s2, am7 n s n2 s2 ∧ o = .ret (.tuple #[]) [stB b w w2, ndR w n2, frR w2 s2]) := by
 obtain ⟨hn, hs, hs2⟩ := h
 refine (ax2 b w1 w2 n s (fun n2 s2 => am7 n s n2 s2) ?_).weak ?_
 ·unfold akd
  refine ⟨⟨hn, hs, hs2⟩, ?_⟩
  rintro n1 s1 ⟨l1, l2, l3⟩
  obtain ⟨pre, f, rfl⟩ := abr (s := s1) (by omega)
  simp only [afq, aa2, abe]
  have hpl : ∀ g : FR, pre.length < (pre ++ [g]).length := fun g => by simp
  refine ⟨by unfold I64; omega, by omega, fun l s2 => ∃ g : FR, s2 = pre ++ [g] ∧ l.length ≤ n.length + 4 ∧ ∀ a rest, y8 n s (a :: rest) → NOK n → NOK l ∧ y8 l pre rest ∧ FrR l (g.1, g.2.1, -1, g.2.2.2.1, g.2.2.2.2.1, g.2.2.2.2.2) a.close, ?_, ?_⟩
  ·rintro l s2 ⟨g, rfl, g1, g2⟩
   simp only [aa2, abe]
   refine ⟨hpl g, by simp only [List.length_append, List.length_cons, List.length_nil] at l1 ⊢; omega, by omega, fun a rest hr hk => ?_⟩
   obtain ⟨e1, e2, e3⟩ := g2 a rest hr hk
   exact ⟨y8.snoc.2 ⟨e3, e2⟩, e1⟩
  ·by_cases hw : f.2.1 < 0
   ·rw [if_pos (by simpa using hw)]
    refine ⟨_, rfl, by omega, fun a rest hr hk => ?_⟩
    obtain ⟨k1, k2⟩ := l3 a rest hr hk
    rw [y8.snoc] at k1
    obtain ⟨r1, r2, r3, r4, r5, r6⟩ := k1.1
    refine ⟨k2, k1.2, r1, ?_, rfl, r4, r5, r6⟩
    show IxR _ _ (some a.whole)
    have h0 : a.alt = none := (r2.neg hw).1
    unfold AF.whole aux
    rw [h0]; exact r3
   ·rw [if_neg (by simpa using hw)]
    refine ⟨by omega, _, rfl, by simp; omega, fun a rest hr hk => ?_⟩
    obtain ⟨k1, k2⟩ := l3 a rest hr hk
    rw [y8.snoc] at k1
    obtain ⟨r1, r2, r3, r4, r5, r6⟩ := k1.1
    obtain ⟨z, e1, e2⟩ := r2.pos hw
    have e3 : Den n1 f.2.2.1 (af9 a a.rowT) := r3
    have hd := als (op := 3) (by omega) e2 e3
    refine ⟨k2.snoc hd, ali.more _ k1.2, r1, ?_, rfl, r4, r5.more _, r6.more _⟩
    show IxR _ _ (some a.whole)
    have h0 : a.alt = some z := e1
    unfold AF.whole aux
    rw [h0]; exact hd
 ·rintro o (⟨w, n2, s2, hK, rfl⟩ | h)
  ·exact ⟨w, n2, s2, hK, rfl⟩
  ·exact h.elim
def aoc (c : Int) (K : Bool → Prop) : Prop :=
 K ((((decide (c = 42)) || (decide (c = 43))) || (decide (c = 63))) || (decide (c = 123)))
theorem auk  (c : Int) (K : Bool → Prop) (h : aoc c K) :
  d5 Tryd.prog 15 [zU c] [] [] (fun o => (∃ (v : Bool), K v ∧ o = .ret (zB v) []) ∨ (False)) := by
 unfold aoc at h
 refine c8 (n := 17) (L0 := [(0, zU c)]) Tryd.func15 rfl rfl rfl rfl (fun w0 M Q hE => ?_)
 refine a6 (fun _ hK => ?_)
 refine a4 ?_
 refine wa ?_
 refine WL.nil ?_
 refine kg (hK [(0, zU c)] _ ?_)
 refine a6 (fun _ hK_1' => ?_)
 refine a4 ?_
 refine wm ?_
 refine wv (OV.eql rfl rfl) ?_
 refine wm ?_
 refine WL.cut 3 [(0, zU c), (8, zB ((decide (c = 42)) || (decide (c = 43))))] ?_ (fun K0_2' hK_2' => ?_)
 rotate_left
 ·refine WL.split (decide (c = 42)) (fun hb => ?_) (fun hb => ?_)
  ·refine WL.set 5 rfl (congrArg zB hb) ?_
   refine wk ?_
   refine wk ?_
   refine wv (OV.pickT rfl rfl) ?_
   refine WL.set 8 rfl (oT (v := decide (c = 43)) hb) ?_
   exact WL.end_ (kg hK_2')
  ·refine WL.set 5 rfl (congrArg zB hb) ?_
   refine wm ?_
   refine wv (OV.eql rfl rfl) ?_
   refine wv (OV.pickF rfl rfl) ?_
   refine WL.set 8 rfl (oF (v := decide (c = 43)) hb) ?_
   exact WL.end_ (kg hK_2')
 refine wm ?_
 refine WL.cut 3 [(0, zU c), (12, zB (((decide (c = 42)) || (decide (c = 43))) || (decide (c = 63))))] ?_ (fun K0_3' hK_3' => ?_)
 rotate_left
 ·refine WL.split ((decide (c = 42)) || (decide (c = 43))) (fun hb => ?_) (fun hb => ?_)
  ·refine WL.set 9 rfl (congrArg zB hb) ?_
   refine wk ?_
   refine wk ?_
   refine wv (OV.pickT rfl rfl) ?_
   refine WL.set 12 rfl (oT (v := decide (c = 63)) hb) ?_
   exact WL.end_ (kg hK_3')
  ·refine WL.set 9 rfl (congrArg zB hb) ?_
   refine wm ?_
   refine wv (OV.eql rfl rfl) ?_
   refine wv (OV.pickF rfl rfl) ?_
   refine WL.set 12 rfl (oF (v := decide (c = 63)) hb) ?_
   exact WL.end_ (kg hK_3')
 refine wm ?_
 refine WL.cut 3 [(16, zB ((((decide (c = 42)) || (decide (c = 43))) || (decide (c = 63))) || (decide (c = 123))))] ?_ (fun K0_4' hK_4' => ?_)
 rotate_left
 ·refine WL.split (((decide (c = 42)) || (decide (c = 43))) || (decide (c = 63))) (fun hb => ?_) (fun hb => ?_)
  ·refine WL.set 13 rfl (congrArg zB hb) ?_
   refine wk ?_
   refine wk ?_
   refine wv (OV.pickT rfl rfl) ?_
   refine WL.set 16 rfl (oT (v := decide (c = 123)) hb) ?_
   exact WL.end_ (kg hK_4')
  ·refine WL.set 13 rfl (congrArg zB hb) ?_
   refine wm ?_
   refine wv (OV.eql rfl rfl) ?_
   refine wv (OV.pickF rfl rfl) ?_
   refine WL.set 16 rfl (oF (v := decide (c = 123)) hb) ?_
   exact WL.end_ (kg hK_4')
 refine wa ?_
 refine WL.nil ?_
 refine kg (hK_1' [(2, zB ((((decide (c = 42)) || (decide (c = 43))) || (decide (c = 63))) || (decide (c = 123))))] _ ?_)
 refine c9 ?_
 exact hE.ret [] rfl rfl (.inl ⟨_, h, rfl⟩) (f9.of1 rfl (RV.tmp rfl))
def asi (place : Int) (K : Int → Int → Int → Int → Int → Int → Prop) : Prop :=
 K place (-1) (-1) 0 (-1) (-1)
set_option maxHeartbeats 2000000 in
theorem ay6  (place : Int) (K : Int → Int → Int → Int → Int → Int → Prop) (h : asi place K) :
  d5 Tryd.prog 14 [zI place] [] [] (fun o => (∃ (v_0 : Int) (v_1 : Int) (v_2 : Int) (v_3 : Int) (v_4 : Int) (v_5 : Int), K v_0 v_1 v_2 v_3 v_4 v_5 ∧ o = .ret (Value.agg [zI v_0, zI v_1, zI v_2, zU v_3, zI v_4, zI v_5].toArray) []) ∨ (False)) := by
 unfold asi at h
 refine c8 (n := 5) (L0 := [(0, zI place)]) Tryd.func14 rfl rfl rfl rfl (fun w0 M Q hE => ?_)
 refine a6 (fun _ hK => ?_)
 refine a4 ?_
 refine WL.make (MV.alloc atf) rfl rfl rfl (fun b => ?_)
 refine WL.nil ?_
 refine kg (hK [(0, zI place), (2, zP b)] _ ?_)
 refine a6 (fun _ hK_1' => ?_)
 refine a4 ?_
 refine wm ?_
 refine wv (OV.build rfl (cs := [zI place, zI (-1), zI (-1), zU 0, zI (-1), zI (-1)]) rfl) ?_
 refine WL.storeW (vs := [zI place, zI (-1), zI (-1), zU 0, zI (-1), zI (-1)]) 0 rfl rfl rfl rfl rfl auu rfl rfl rfl ?_
 refine WL.nil ?_
 refine kg (hK_1' [(2, zP b)] _ ?_)
 refine c9 ?_
 exact hE.ret [] rfl rfl (.inl ⟨_, _, _, _, _, _, h, rfl⟩) (f9.of1 rfl (RV.row rfl (At.own 0 rfl) axm))
def arw (text : List UInt8) (i : Int) (K : Bool → Prop) : Prop :=
 ((decide (i < (text.length : Int))) = true → (0 ≤ i ∧ i < text.length)) ∧
 (((decide (i < (text.length : Int))) && (decide (48 ≤ ((text.getD i.toNat 0).toNat : Int)))) = true → (0 ≤ i ∧ i < text.length)) ∧
 K (((decide (i < (text.length : Int))) && (decide (48 ≤ ((text.getD i.toNat 0).toNat : Int)))) && (decide (((text.getD i.toNat 0).toNat : Int) ≤ 57)))
theorem azt  (text : List UInt8) (i : Int) (K : Bool → Prop) (h : arw text i K) :
  d5 Tryd.prog 31 [st text, zI i] [] [] (fun o => (∃ (v : Bool), K v ∧ o = .ret (zB v) []) ∨ (False)) := by
 unfold arw at h
 refine c8 (n := 21) (L0 := [(0, st text), (1, zI i)]) Tryd.func31 rfl rfl rfl rfl (fun w0 M Q hE => ?_)
 refine a6 (fun _ hK => ?_)
 refine a4 ?_
 refine wa ?_
 refine WL.nil ?_
 refine kg (hK [(0, st text), (1, zI i)] _ ?_)
 refine a6 (fun _ hK_1' => ?_)
 refine a4 ?_
 refine wm ?_
 refine wm ?_
 refine wv (OV.len rfl j7) ?_
 refine wv (OV.lss rfl rfl) ?_
 refine wm ?_
 obtain ⟨o_1', h⟩ := h
 refine WL.cut 5 [(0, st text), (1, zI i), (14, zB ((decide (i < (text.length : Int))) && (decide (48 ≤ ((text.getD i.toNat 0).toNat : Int)))))] ?_ (fun K0_2' hK_2' => ?_)
 rotate_left
 ·refine WL.split (decide (i < (text.length : Int))) (fun hb => ?_) (fun hb => ?_)
  ·have o := o_1' hb
   refine WL.set 9 rfl (congrArg zB hb) ?_
   refine wm ?_
   refine wm ?_
   refine wv (OV.index rfl rfl j7 o) ?_
   refine wv (OV.geq rfl rfl) ?_
   refine wv (OV.pickT rfl rfl) ?_
   refine WL.set 14 rfl (bT (v := decide (48 ≤ ((text.getD i.toNat 0).toNat : Int))) hb) ?_
   exact WL.end_ (kg hK_2')
  ·refine WL.set 9 rfl (congrArg zB hb) ?_
   refine wk ?_
   refine wk ?_
   refine wk ?_
   refine wk ?_
   refine wv (OV.pickF rfl rfl) ?_
   refine WL.set 14 rfl (bF (v := decide (48 ≤ ((text.getD i.toNat 0).toNat : Int))) hb) ?_
   exact WL.end_ (kg hK_2')
 refine wm ?_
 obtain ⟨o_3', h⟩ := h
 refine WL.cut 5 [(20, zB (((decide (i < (text.length : Int))) && (decide (48 ≤ ((text.getD i.toNat 0).toNat : Int)))) && (decide (((text.getD i.toNat 0).toNat : Int) ≤ 57))))] ?_ (fun K0_3' hK_3' => ?_)
 rotate_left
 ·refine WL.split ((decide (i < (text.length : Int))) && (decide (48 ≤ ((text.getD i.toNat 0).toNat : Int)))) (fun hb => ?_) (fun hb => ?_)
  ·have o_2' := o_3' hb
   refine WL.set 15 rfl (congrArg zB hb) ?_
   refine wm ?_
   refine wm ?_
   refine wv (OV.index rfl rfl j7 o_2') ?_
   refine wv (OV.leq rfl rfl) ?_
   refine wv (OV.pickT rfl rfl) ?_
   refine WL.set 20 rfl (bT (v := decide (((text.getD i.toNat 0).toNat : Int) ≤ 57)) hb) ?_
   exact WL.end_ (kg hK_3')
  ·refine WL.set 15 rfl (congrArg zB hb) ?_
   refine wk ?_
   refine wk ?_
   refine wk ?_
   refine wk ?_
   refine wv (OV.pickF rfl rfl) ?_
   refine WL.set 20 rfl (bF (v := decide (((text.getD i.toNat 0).toNat : Int) ≤ 57)) hb) ?_
   exact WL.end_ (kg hK_3')
 refine wa ?_
 refine WL.nil ?_
 refine kg (hK_1' [(4, zB (((decide (i < (text.length : Int))) && (decide (48 ≤ ((text.getD i.toNat 0).toNat : Int)))) && (decide (((text.getD i.toNat 0).toNat : Int) ≤ 57))))] _ ?_)
 refine c9 ?_
 exact hE.ret [] rfl rfl (.inl ⟨_, h, rfl⟩) (f9.of1 rfl (RV.tmp rfl))
def akn (a : Int) (m : Int) (n : Int) (K : Int → Prop) : Prop :=
 (if (decide (m = (-2))) = true then
  (I64 (a + 1)) ∧
  (I64 ((a + 1) + a)) ∧
  (I64 (((a + 1) + a) + 1)) ∧
  K (((a + 1) + a) + 1)
 else
  (if ((decide (n < 0)) && (decide (m = 0))) = true then
   (I64 (a + 1)) ∧
   K (a + 1)
  else
   (if (decide (n < 0)) = true then
    (I64 (m * a)) ∧
    (I64 ((m * a) + m)) ∧
    (I64 (((m * a) + m) - 1)) ∧
    (I64 ((((m * a) + m) - 1) + 1)) ∧
    (I64 (((((m * a) + m) - 1) + 1) + a)) ∧
    (I64 ((((((m * a) + m) - 1) + 1) + a) + 1)) ∧
    K ((((((m * a) + m) - 1) + 1) + a) + 1)
   else
    (if (decide (n = 0)) = true then
     K 1
    else
     (if (decide (m = 0)) = true then
      (I64 (a + 2)) ∧
      (I64 (n * (a + 2))) ∧
      (I64 ((n * (a + 2)) + n)) ∧
      (I64 (((n * (a + 2)) + n) - 1)) ∧
      K (((n * (a + 2)) + n) - 1)
     else
      (I64 (m * a)) ∧
      (I64 ((m * a) + m)) ∧
      (I64 (((m * a) + m) - 1)) ∧
      (I64 (n - m)) ∧
      (I64 (a + 2)) ∧
      (I64 ((a + 2) + 1)) ∧
      (I64 ((n - m) * ((a + 2) + 1))) ∧
      (I64 ((((m * a) + m) - 1) + ((n - m) * ((a + 2) + 1)))) ∧
      K ((((m * a) + m) - 1) + ((n - m) * ((a + 2) + 1))))))))
theorem ax3  (a : Int) (m : Int) (n : Int) (K : Int → Prop) (h : akn a m n K) :
  d5 Tryd.prog 34 [zI a, zI m, zI n] [] [] (fun o => (∃ (v : Int), K v ∧ o = .ret (zI v) []) ∨ (False)) := by
 unfold akn at h
 refine c8 (n := 59) (L0 := [(0, zI a), (1, zI m), (2, zI n)]) Tryd.func34 rfl rfl rfl rfl (fun w0 M Q hE => ?_)
 refine a6 (fun _ hK => ?_)
 refine a4 ?_
 refine wa ?_
 refine WL.nil ?_
 refine kg (hK [(0, zI a), (1, zI m), (2, zI n)] _ ?_)
 refine a6 (fun _ hK_1' => ?_)
 refine a6 (fun _ hK_2' => ?_)
 refine a4 ?_
 refine wm ?_
 refine wv (OV.eql rfl rfl) ?_
 refine WL.nil ?_
 refine kg (hK_2' [(0, zI a), (1, zI m), (2, zI n), (8, zB (decide (m = (-2))))] _ ?_)
 refine b6 (b := decide (m = (-2))) rfl (fun hb => ?_) (fun hb => ?_)
 ·replace h := j4 h hb
  refine a6 (fun _ hK_3' => ?_)
  refine a4 ?_
  refine wm ?_
  obtain ⟨o, h⟩ := h
  refine wv (OV.add rfl rfl o) ?_
  refine wm ?_
  obtain ⟨o_1', h⟩ := h
  refine wv (OV.add rfl rfl o_1') ?_
  obtain ⟨o_2', h⟩ := h
  refine wv (OV.add rfl rfl o_2') ?_
  refine wa ?_
  refine WL.nil ?_
  refine kg (hK_3' [(6, zI (((a + 1) + a) + 1))] _ ?_)
  refine c9 ?_
  exact hE.ret [] rfl rfl (.inl ⟨_, h, rfl⟩) (f9.of1 rfl (RV.tmp rfl))
 ·replace h := j5 h hb
  refine b7 ?_
  refine kg (hK_1' [(0, zI a), (1, zI m), (2, zI n)] _ ?_)
  refine a6 (fun _ hK_4' => ?_)
  refine a6 (fun _ hK_5' => ?_)
  refine a4 ?_
  refine wm ?_
  refine wv (OV.lss rfl rfl) ?_
  refine wm ?_
  refine WL.cut 3 [(0, zI a), (1, zI m), (2, zI n), (19, zB ((decide (n < 0)) && (decide (m = 0))))] ?_ (fun K0_6' hK_6' => ?_)
  rotate_left
  ·refine WL.split (decide (n < 0)) (fun hb => ?_) (fun hb => ?_)
   ·refine WL.set 16 rfl (congrArg zB hb) ?_
    refine wm ?_
    refine wv (OV.eql rfl rfl) ?_
    refine wv (OV.pickT rfl rfl) ?_
    refine WL.set 19 rfl (bT (v := decide (m = 0)) hb) ?_
    exact WL.end_ (kg hK_6')
   ·refine WL.set 16 rfl (congrArg zB hb) ?_
    refine wk ?_
    refine wk ?_
    refine wv (OV.pickF rfl rfl) ?_
    refine WL.set 19 rfl (bF (v := decide (m = 0)) hb) ?_
    exact WL.end_ (kg hK_6')
  refine WL.nil ?_
  refine kg (hK_5' [(0, zI a), (1, zI m), (2, zI n), (19, zB ((decide (n < 0)) && (decide (m = 0))))] _ ?_)
  refine b6 (b := (decide (n < 0)) && (decide (m = 0))) rfl (fun hb => ?_) (fun hb => ?_)
  ·replace h := j4 h hb
   refine a6 (fun _ hK_7' => ?_)
   refine a4 ?_
   refine wm ?_
   obtain ⟨o_4', h⟩ := h
   refine wv (OV.add rfl rfl o_4') ?_
   refine wa ?_
   refine WL.nil ?_
   refine kg (hK_7' [(6, zI (a + 1))] _ ?_)
   refine c9 ?_
   exact hE.ret [] rfl rfl (.inl ⟨_, h, rfl⟩) (f9.of1 rfl (RV.tmp rfl))
  ·replace h := j5 h hb
   refine b7 ?_
   refine kg (hK_4' [(0, zI a), (1, zI m), (2, zI n)] _ ?_)
   refine a6 (fun _ hK_8' => ?_)
   refine a6 (fun _ hK_9' => ?_)
   refine a4 ?_
   refine wm ?_
   refine wv (OV.lss rfl rfl) ?_
   refine WL.nil ?_
   refine kg (hK_9' [(0, zI a), (1, zI m), (2, zI n), (23, zB (decide (n < 0)))] _ ?_)
   refine b6 (b := decide (n < 0)) rfl (fun hb => ?_) (fun hb => ?_)
   ·replace h := j4 h hb
    refine a6 (fun _ hK_10' => ?_)
    refine a4 ?_
    refine wm ?_
    refine wm ?_
    obtain ⟨o_5', h⟩ := h
    refine wv (OV.mul rfl rfl o_5') ?_
    refine wm ?_
    obtain ⟨o_6', h⟩ := h
    refine wv (OV.add rfl rfl o_6') ?_
    obtain ⟨o_7', h⟩ := h
    refine wv (OV.sub rfl rfl o_7') ?_
    obtain ⟨o_8', h⟩ := h
    refine wv (OV.add rfl rfl o_8') ?_
    refine wm ?_
    obtain ⟨o_9', h⟩ := h
    refine wv (OV.add rfl rfl o_9') ?_
    obtain ⟨o_10', h⟩ := h
    refine wv (OV.add rfl rfl o_10') ?_
    refine wa ?_
    refine WL.nil ?_
    refine kg (hK_10' [(6, zI ((((((m * a) + m) - 1) + 1) + a) + 1))] _ ?_)
    refine c9 ?_
    exact hE.ret [] rfl rfl (.inl ⟨_, h, rfl⟩) (f9.of1 rfl (RV.tmp rfl))
   ·replace h := j5 h hb
    refine b7 ?_
    refine kg (hK_8' [(0, zI a), (1, zI m), (2, zI n)] _ ?_)
    refine a6 (fun _ hK_11' => ?_)
    refine a6 (fun _ hK_12' => ?_)
    refine a4 ?_
    refine wm ?_
    refine wv (OV.eql rfl rfl) ?_
    refine WL.nil ?_
    refine kg (hK_12' [(0, zI a), (1, zI m), (2, zI n), (35, zB (decide (n = 0)))] _ ?_)
    refine b6 (b := decide (n = 0)) rfl (fun hb => ?_) (fun hb => ?_)
    ·replace h := j4 h hb
     refine a6 (fun _ hK_13' => ?_)
     refine a4 ?_
     refine wa ?_
     refine WL.nil ?_
     refine kg (hK_13' [(6, zI 1)] _ ?_)
     refine c9 ?_
     exact hE.ret [] rfl rfl (.inl ⟨_, h, rfl⟩) (f9.of1 rfl (RV.tmp rfl))
    ·replace h := j5 h hb
     refine b7 ?_
     refine kg (hK_11' [(0, zI a), (1, zI m), (2, zI n)] _ ?_)
     refine a6 (fun _ hK_14' => ?_)
     refine a6 (fun _ hK_15' => ?_)
     refine a4 ?_
     refine wm ?_
     refine wv (OV.eql rfl rfl) ?_
     refine WL.nil ?_
     refine kg (hK_15' [(0, zI a), (1, zI m), (2, zI n), (37, zB (decide (m = 0)))] _ ?_)
     refine b6 (b := decide (m = 0)) rfl (fun hb => ?_) (fun hb => ?_)
     ·replace h := j4 h hb
      refine a6 (fun _ hK_16' => ?_)
      refine a4 ?_
      refine wm ?_
      refine wm ?_
      obtain ⟨o_11', h⟩ := h
      refine wv (OV.add rfl rfl o_11') ?_
      obtain ⟨o_12', h⟩ := h
      refine wv (OV.mul rfl rfl o_12') ?_
      refine wm ?_
      obtain ⟨o_13', h⟩ := h
      refine wv (OV.add rfl rfl o_13') ?_
      obtain ⟨o_14', h⟩ := h
      refine wv (OV.sub rfl rfl o_14') ?_
      refine wa ?_
      refine WL.nil ?_
      refine kg (hK_16' [(6, zI (((n * (a + 2)) + n) - 1))] _ ?_)
      refine c9 ?_
      exact hE.ret [] rfl rfl (.inl ⟨_, h, rfl⟩) (f9.of1 rfl (RV.tmp rfl))
     ·replace h := j5 h hb
      refine b7 ?_
      refine kg (hK_14' [(0, zI a), (1, zI m), (2, zI n)] _ ?_)
      refine a6 (fun _ hK_17' => ?_)
      refine a4 ?_
      refine wm ?_
      refine wm ?_
      obtain ⟨o_15', h⟩ := h
      refine wv (OV.mul rfl rfl o_15') ?_
      refine wm ?_
      obtain ⟨o_16', h⟩ := h
      refine wv (OV.add rfl rfl o_16') ?_
      obtain ⟨o_17', h⟩ := h
      refine wv (OV.sub rfl rfl o_17') ?_
      refine wm ?_
      refine wm ?_
      obtain ⟨o_18', h⟩ := h
      refine wv (OV.sub rfl rfl o_18') ?_
      refine wm ?_
      obtain ⟨o_19', h⟩ := h
      refine wv (OV.add rfl rfl o_19') ?_
      obtain ⟨o_20', h⟩ := h
      refine wv (OV.add rfl rfl o_20') ?_
      obtain ⟨o_21', h⟩ := h
      refine wv (OV.mul rfl rfl o_21') ?_
      obtain ⟨o_22', h⟩ := h
      refine wv (OV.add rfl rfl o_22') ?_
      refine wa ?_
      refine WL.nil ?_
      refine kg (hK_17' [(6, zI ((((m * a) + m) - 1) + ((n - m) * ((a + 2) + 1))))] _ ?_)
      refine c9 ?_
      exact hE.ret [] rfl rfl (.inl ⟨_, h, rfl⟩) (f9.of1 rfl (RV.tmp rfl))
def ama (c : Int) : Bool := (((decide (c = 42)) || (decide (c = 43))) || (decide (c = 63))) || (decide (c = 123))
theorem aq0 (c : Int) : d5 Tryd.prog 15 [.int .u8 c] [] [] (Ret (.bool (ama c)) []) := d5.one (auk c (fun v => v = ama c) rfl)
theorem an3 (p : Int) : d5 Tryd.prog 14 [.int .i64 p] [] [] (Ret (.agg [.int .i64 p, .int .i64 (-1), .int .i64 (-1), .int .u8 0, .int .i64 (-1), .int .i64 (-1)].toArray) []) := by
 refine (ay6 p (fun a b c d e f => a = p ∧ b = -1 ∧ c = -1 ∧ d = 0 ∧ e = -1 ∧ f = -1) ⟨rfl, rfl, rfl, rfl, rfl, rfl⟩).weak ?_
 rintro o (⟨a, b, c, d, e, f, ⟨rfl, rfl, rfl, rfl, rfl, rfl⟩, rfl⟩ | h)
 ·rfl
 ·exact h.elim
def ab0 (t : List UInt8) (i : Int) : Bool := ((decide (i < (t.length : Int))) && (decide (48 ≤ nx t i))) && (decide (nx t i ≤ 57))
theorem ang (t : List UInt8) (i : Int) (h : 0 ≤ i) : d5 Tryd.prog 31 [st t, .int .i64 i] [] [] (Ret (.bool (ab0 t i)) []) :=
 d5.one (azt t i (fun v => v = ab0 t i) ⟨fun h1 => ⟨h, by simpa using h1⟩, fun h1 => ⟨h, by simp at h1; omega⟩, rfl⟩)
def acq (a m n : Int) : Int := if m = -2 then ((a + 1) + a) + 1 else if n < 0 ∧ m = 0 then a + 1 else if n < 0 then (((((m * a) + m) - 1) + 1) + a) + 1 else if n = 0 then 1 else if m = 0 then ((n * (a + 2)) + n) - 1 else (((m * a) + m) - 1) + ((n - m) * ((a + 2) + 1))
def ay3 (a m n : Int) : Prop := 0 ≤ a ∧ a ≤ 2001 ∧ aiy m n
theorem atq {x y X : Int} (h0 : 0 ≤ y) (h1 : -X ≤ x) (h2 : x ≤ X) : -(X * y) ≤ x * y ∧ x * y ≤ X * y := by
 have a1 := Int.mul_nonneg (show 0 ≤ x + X by omega) h0
 have a2 := Int.mul_nonneg (show 0 ≤ X - x by omega) h0
 rw [Int.add_mul] at a1
 rw [Int.sub_mul] at a2
 omega
theorem asf (a m n : Int) (h : ay3 a m n) : d5 Tryd.prog 34 [.int .i64 a, .int .i64 m, .int .i64 n] [] [] (Ret (.int .i64 (acq a m n)) []) :=
 d5.one (ax3 a m n (fun v => v = acq a m n) (by
  obtain ⟨h0, h1, hb⟩ := h
  unfold aiy at hb
  have e1 := atq (x := m) (y := a) (X := 300) h0 (by omega) (by omega)
  have e2 := atq (x := n) (y := a + 2) (X := 300) (by omega) (by omega) (by omega)
  have e3 := atq (x := n - m) (y := a + 2 + 1) (X := 300) (by omega) (by omega) (by omega)
  unfold akn acq I64
  by_cases c1 : m = -2
  ·rw [if_pos (by simpa using c1), if_pos c1]; exact ⟨by omega, by omega, by omega, rfl⟩
  rw [if_neg (by simpa using c1), if_neg c1]
  by_cases c2 : n < 0 ∧ m = 0
  ·rw [if_pos (by simpa using c2), if_pos c2]; exact ⟨by omega, rfl⟩
  rw [if_neg (by simpa using c2), if_neg c2]
  by_cases c3 : n < 0
  ·rw [if_pos (by simpa using c3), if_pos c3]; exact ⟨by omega, by omega, by omega, by omega, by omega, by omega, rfl⟩
  rw [if_neg (by simpa using c3), if_neg c3]
  by_cases c4 : n = 0
  ·rw [if_pos (by simpa using c4), if_pos c4]
  rw [if_neg (by simpa using c4), if_neg c4]
  by_cases c5 : m = 0
  ·rw [if_pos (by simpa using c5), if_pos c5]; exact ⟨by omega, by omega, by omega, by omega, rfl⟩
  ·rw [if_neg (by simpa using c5), if_neg c5]; exact ⟨by omega, by omega, by omega, by omega, by omega, by omega, by omega, by omega, rfl⟩))
theorem ahq (y : Tr) : ∀ (k : Nat) (x : Tr), (ado x y k).size = x.size + k * (1 + y.size)
 | 0, x => by simp [ado]
 | k + 1, x => by rw [ado, ahq y k, Tr.size, Nat.add_mul, Nat.one_mul]; omega
theorem asv {x : Tr} {m n : Int} (hb : aiy m n) : acq x.size m n = ((ajz x m n).size : Int) := by
 unfold aiy at hb
 unfold acq ajz
 by_cases c1 : m = -2
 ·rw [if_pos c1, if_pos c1]
  simp only [aal]
  rw [if_neg (by omega), if_neg (by omega), if_pos (by omega), if_neg (by omega)]
  simp only [ado, Tr.size, show ((1 : Int) - 1).toNat = 0 from rfl]
  omega
 rw [if_neg c1, if_neg c1]
 unfold aal
 by_cases c2 : n < 0 ∧ m = 0
 ·rw [if_pos c2, if_pos ⟨c2.2, c2.1⟩]; simp only [Tr.size]; omega
 rw [if_neg c2, if_neg (show ¬ (m = 0 ∧ n < 0) from fun h => c2 ⟨h.2, h.1⟩)]
 by_cases c3 : n < 0
 ·rw [if_pos c3, if_neg (show ¬ (m = 0 ∧ n = 0) by omega), if_pos c3, if_neg (show ¬ m = 0 by omega)]
  simp only [Tr.size, ahq]
  obtain ⟨k, rfl⟩ : ∃ k : Nat, m = (k : Int) + 1 := ⟨(m - 1).toNat, by omega⟩
  rw [show ((k : Int) + 1 - 1).toNat = k by omega]
  push_cast
  rw [Int.add_mul, Int.mul_add]
  omega
 rw [if_neg c3]
 by_cases c4 : n = 0
 ·rw [if_pos c4, if_pos (show m = 0 ∧ n = 0 by omega)]; rfl
 rw [if_neg c4, if_neg (show ¬ (m = 0 ∧ n = 0) by omega), if_neg c3]
 by_cases c5 : m = 0
 ·rw [if_pos c5, if_pos c5]
  subst c5
  obtain ⟨k, rfl⟩ : ∃ k : Nat, n = (k : Int) + 1 := ⟨(n - 1).toNat, by omega⟩
  simp only [ahq, Tr.size]
  rw [show ((0 : Int) - 1).toNat = 0 by omega, show ((k : Int) + 1 - max 0 1).toNat = k by omega]
  push_cast
  simp only [Int.add_mul, Int.mul_add]
  omega
 ·rw [if_neg c5, if_neg c5]
  obtain ⟨k, rfl⟩ : ∃ k : Nat, m = (k : Int) + 1 := ⟨(m - 1).toNat, by omega⟩
  obtain ⟨q, hq⟩ : ∃ q : Nat, n = (k : Int) + 1 + q := ⟨(n - (k + 1)).toNat, by omega⟩
  subst hq
  simp only [ahq, Tr.size]
  rw [show ((k : Int) + 1 - 1).toNat = k by omega, show ((k : Int) + 1 + q - max ((k : Int) + 1) 1).toNat = q by omega, show (k : Int) + 1 + q - (k + 1) = q by omega]
  push_cast
  simp only [Int.add_mul, Int.mul_add]
  omega
theorem api {a m n : Int} (h0 : 0 ≤ a) (hb : aiy m n) (h : ¬ (m = 0 ∧ n = 0)) : a ≤ acq a m n := by
 unfold aiy at hb
 unfold acq
 by_cases c1 : m = -2
 ·rw [if_pos c1]; omega
 rw [if_neg c1]
 by_cases c2 : n < 0 ∧ m = 0
 ·rw [if_pos c2]; omega
 rw [if_neg c2]
 by_cases c3 : n < 0
 ·rw [if_pos c3]
  have := Int.mul_nonneg (show 0 ≤ m by omega) h0
  omega
 rw [if_neg c3, if_neg (by omega)]
 by_cases c5 : m = 0
 ·rw [if_pos c5]
  have := Int.mul_nonneg (show 0 ≤ n - 1 by omega) (show 0 ≤ a + 2 by omega)
  rw [Int.sub_mul] at this
  omega
 ·rw [if_neg c5]
  have h1 := Int.mul_nonneg (show 0 ≤ m - 1 by omega) h0
  have h2 := Int.mul_nonneg (show 0 ≤ n - m by omega) (show 0 ≤ a + 2 + 1 by omega)
  rw [Int.sub_mul] at h1
  omega
theorem aw2 {x : Tr} {m n : Int} (hb : aiy m n) : min (acq (min (x.size : Int) 2001) m n) 2001 = min ((ajz x m n).size : Int) 2001 := by
 rw [← asv hb]
 by_cases hs : (x.size : Int) ≤ 2001
 ·rw [Int.min_eq_left hs]
 ·rw [Int.min_eq_right (show (2001 : Int) ≤ x.size by omega)]
  by_cases hz : m = 0 ∧ n = 0
  ·obtain ⟨rfl, rfl⟩ := hz; simp [acq]
  ·have h1 := api (a := 2001) (by omega) hb hz
   have h2 := api (a := (x.size : Int)) (by omega) hb hz
   omega
def abv (t : List UInt8) (from_ : Int) : Except (Int × Int) (Int × Int × Int) :=
 match acr t (from_ + 1) with
 | .error e => .error e
 | .ok (m, j) =>
  match ads t m j with
  | .error e => .error e
  | .ok (n, k) =>
   if k < t.length ∧ nx t k = 125 then (if m > 255 ∨ n > 255 ∨ (0 ≤ n ∧ n < m) then .error (22, from_) else .ok (m, n, k + 1)) else .error (20, k)
theorem apr (t : List UInt8) (x : Tr) (i : Int) : z7 t x i = match abv t i with
  | .error e => .error e
  | .ok (m, n, k) => .ok (aal x m n, k) := by
 unfold z7 abv
 cases acr t (i + 1) with
 | error e => rfl
 | ok p =>
  obtain ⟨m, j⟩ := p
  simp only
  cases ads t m j with
  | error e => rfl
  | ok q =>
   obtain ⟨n, k⟩ := q
   simp only
   split
   ·split <;> rfl
   ·rfl
theorem aq4 {t : List UInt8} {j m k : Int} (h : acr t j = .ok (m, k)) : 0 ≤ m := by
 unfold acr at h
 split at h
 ·cases h
 ·have key : ∀ (f : Nat) (n j : Int), 0 ≤ n → 0 ≤ (ael t f n j).1 := by
   intro f
   induction f with
   | zero => intro n j hn; exact hn
   | succ f ih =>
    intro n j hn
    unfold ael
    split
    ·rename_i hc
     have hd := hc.2
     simp only [arj, Bool.and_eq_true, decide_eq_true_eq] at hd
     exact ih _ _ (by omega)
    ·exact hn
  have h2 : ael t 3 0 j = (m, k) := by injection h
  have := key 3 0 j (by omega)
  rw [h2] at this; exact this
theorem auh {t : List UInt8} {i m n k : Int} (h : abv t i = .ok (m, n, k)) : aiy m n := by
 unfold abv at h
 split at h
 ·cases h
 ·rename_i m' j hm
  have h1 := aq4 hm
  split at h
  ·cases h
  ·rename_i n' k' hc
   split at h
   ·split at h
    ·cases h
    ·rename_i hz
     simp only [Except.ok.injEq, Prod.mk.injEq] at h
     have h2 : -1 ≤ n' := by
      unfold ads at hc
      split at hc
      ·split at hc
       ·simp only [Except.ok.injEq, Prod.mk.injEq] at hc; omega
       ·have := aq4 hc; omega
      ·simp only [Except.ok.injEq, Prod.mk.injEq] at hc; omega
     unfold aiy; omega
   ·cases h
def BrR (t : List UInt8) (i m n k e p : Int) : Prop := (e = 0 ∧ abv t i = .ok (m, n, k)) ∨ (0 < e ∧ abv t i = .error (e, p))
def ai0 (text : List UInt8) (from0 : Int) (K : Int → Int → Int → Int → Int → Prop) : Prop :=
 (I64 (from0 + 1)) ∧
 ∃ (J0 : Int → Int → (Nat → Int) → Prop),
  (∀ (i_8' : Int) (got_2' : Int) (v_8' : Nat → Int), J0 i_8' got_2' v_8' →
   ∃ (J0_1' : (Nat → Int) → Prop),
    (∀ (v_9' : Nat → Int), J0_1' v_9' →
     ((decide ((text.length : Int) ≤ i_8')) = false → (0 ≤ i_8' ∧ i_8' < text.length)) ∧
     (if ((decide ((text.length : Int) ≤ i_8')) || (!decide (((text.getD i_8'.toNat 0).toNat : Int) = 125))) = true then
      K 0 0 0 20 i_8'
     else
      (if (((decide (255 < v_9' 0)) || (decide (255 < v_9' 1))) || ((decide (0 ≤ v_9' 1)) && (decide (v_9' 1 < v_9' 0)))) = true then
       K 0 0 0 22 from0
      else
       (I64 (i_8' + 1)) ∧
       K (v_9' 0) (v_9' 1) (i_8' + 1) 0 0))) ∧
    (if (decide (got_2' = 1)) = true then
     J0_1' (fun j => if j = 1 then v_8' 0 else v_8' j)
    else
     J0_1' v_8')) ∧
  ∃ (Inv_6' : Int → Int → (Nat → Int) → Prop) (mu_6' : Int → Int → (Nat → Int) → Nat),
   Inv_6' (from0 + 1) 0 (fun _ => 0) ∧ ∀ (i_14' : Int) (got_4' : Int) (v_15' : Nat → Int), Inv_6' i_14' got_4' v_15' →
    (if (decide (got_4' < 2)) = true then
     (0 ≤ i_14') ∧
     (if (!(ab0 text i_14')) = true then
      K 0 0 0 20 i_14'
     else
      ∃ (Inv_7' : Int → Int → (Nat → Int) → Prop) (mu_7' : Int → Int → (Nat → Int) → Nat),
       Inv_7' i_14' 0 v_15' ∧ ∀ (i_16' : Int) (k_11' : Int) (v_17' : Nat → Int), Inv_7' i_16' k_11' v_17' →
        ((decide (k_11' < 3)) = true → (0 ≤ i_16')) ∧
        (if ((decide (k_11' < 3)) && (ab0 text i_16')) = true then
         (0 ≤ got_4' ∧ got_4' < 2) ∧
         (I64 (10 * (v_17' ((got_4').toNat)))) ∧
         (0 ≤ i_16' ∧ i_16' < text.length) ∧
         (I64 (IntKind.wrap .u8 (((text.getD i_16'.toNat 0).toNat : Int) - 48))) ∧
         (I64 ((10 * (v_17' ((got_4').toNat))) + (IntKind.wrap .u8 (((text.getD i_16'.toNat 0).toNat : Int) - 48)))) ∧
         (0 ≤ got_4' ∧ got_4' < 2) ∧
         (I64 (i_16' + 1)) ∧
         (I64 (k_11' + 1)) ∧
         Inv_7' (i_16' + 1) (k_11' + 1) (fun j => if j = (got_4').toNat then (10 * (v_17' ((got_4').toNat))) + (IntKind.wrap .u8 (((text.getD i_16'.toNat 0).toNat : Int) - 48)) else v_17' j) ∧ mu_7' (i_16' + 1) (k_11' + 1) (fun j => if j = (got_4').toNat then (10 * (v_17' ((got_4').toNat))) + (IntKind.wrap .u8 (((text.getD i_16'.toNat 0).toNat : Int) - 48)) else v_17' j) < mu_7' i_16' k_11' v_17'
        else
         (I64 (got_4' + 1)) ∧
         (((decide (got_4' + 1 = 2)) || (decide ((text.length : Int) ≤ i_16'))) = false → (0 ≤ i_16' ∧ i_16' < text.length)) ∧
         (if (((decide (got_4' + 1 = 2)) || (decide ((text.length : Int) ≤ i_16'))) || (!decide (((text.getD i_16'.toNat 0).toNat : Int) = 44))) = true then
          J0 i_16' (got_4' + 1) v_17'
         else
          (I64 (i_16' + 1)) ∧
          ((decide (i_16' + 1 < (text.length : Int))) = true → (0 ≤ (i_16' + 1) ∧ (i_16' + 1) < text.length)) ∧
          (if ((decide (i_16' + 1 < (text.length : Int))) && (decide (((text.getD (i_16' + 1).toNat 0).toNat : Int) = 125))) = true then
           Inv_6' (i_16' + 1) 2 (fun j => if j = 1 then (-1) else v_17' j) ∧ mu_6' (i_16' + 1) 2 (fun j => if j = 1 then (-1) else v_17' j) < mu_6' i_14' got_4' v_15'
          else
           Inv_6' (i_16' + 1) (got_4' + 1) v_17' ∧ mu_6' (i_16' + 1) (got_4' + 1) v_17' < mu_6' i_14' got_4' v_15'))))
    else
     J0 i_14' got_4' v_15')
theorem aui  (text : List UInt8) (from0 : Int) (K : Int → Int → Int → Int → Int → Prop) (h : ai0 text from0 K) :
  d5 Tryd.prog 16 [st text, zI from0] [] [] (fun o => (∃ (v_18' : Int) (v_19' : Int) (v_20' : Int) (v_21' : Int) (v_22' : Int), K v_18' v_19' v_20' v_21' v_22' ∧ o = .ret (Value.tuple #[zI v_18', zI v_19', zI v_20', zI v_21', zI v_22']) []) ∨ (False)) := by
 unfold ai0 at h
 refine c8 (n := 117) (L0 := [(0, st text), (1, zI from0)]) Tryd.func16 rfl rfl rfl rfl (fun w0 M Q hE => ?_)
 refine a6 (fun _ hK => ?_)
 refine a4 ?_
 refine wa ?_
 refine wa ?_
 refine wa ?_
 refine wa ?_
 refine wa ?_
 refine WL.nil ?_
 refine kg (hK [(0, st text), (1, zI from0)] _ ?_)
 refine a6 (fun _ hK_1' => ?_)
 refine a4 ?_
 refine wm ?_
 obtain ⟨o, h⟩ := h
 refine wv (OV.add rfl rfl o) ?_
 refine wa ?_
 refine WL.nil ?_
 refine kg (hK_1' [(0, st text), (1, zI from0), (9, zI (from0 + 1))] _ ?_)
 refine a6 (fun _ hK_2' => ?_)
 refine a4 ?_
 refine WL.make (MV.alloc ase) rfl rfl rfl (fun b => ?_)
 refine WL.nil ?_
 refine kg (hK_2' [(0, st text), (1, zI from0), (9, zI (from0 + 1)), (10, zP b)] _ ?_)
 refine a6 (fun _ hK_3' => ?_)
 refine a4 ?_
 refine wa ?_
 refine WL.nil ?_
 refine kg (hK_3' [(0, st text), (1, zI from0), (9, zI (from0 + 1)), (10, zP b), (11, zI 0)] _ ?_)
 obtain ⟨J0, hJ, h⟩ := h
 refine n5 (X := Int × Int × (Nat → Int)) (fun σ => J0 σ.1 σ.2.1 σ.2.2) (fun σ => [(0, st text), (1, zI from0), (9, zI σ.1), (10, zP b), (11, zI σ.2.1)]) (fun σ => [HA.blk b (.cells (arr 2 (fun j => zI (σ.2.2 j))).toArray 92 (0, 0))]) ?_ (fun K0_97' hK_97' => ?_)
 ·rintro ⟨i_8', got_2', v_8'⟩ hj
  replace h := hJ i_8' got_2' v_8' hj
  show WC _ _ _ _ [(0, st text), (1, zI from0), (9, zI i_8'), (10, zP b), (11, zI got_2')] [HA.blk b (.cells (arr 2 (fun j => zI (v_8' j))).toArray 92 (0, 0))]
  obtain ⟨J0_1', hJ_1', h⟩ := h
  refine n5 (X := (Nat → Int)) (fun σ => J0_1' σ) (fun σ => [(0, st text), (1, zI from0), (9, zI i_8'), (10, zP b)]) (fun σ => [HA.blk b (.cells (arr 2 (fun j => zI (σ j))).toArray 92 (0, 0))]) ?_ (fun K0_99' hK_99' => ?_)
  ·rintro v_9' hj
   replace h := hJ_1' v_9' hj
   show WC _ _ _ _ [(0, st text), (1, zI from0), (9, zI i_8'), (10, zP b)] [HA.blk b (.cells (arr 2 (fun j => zI (v_9' j))).toArray 92 (0, 0))]
   refine a6 (fun _ hK_100' => ?_)
   refine a6 (fun _ hK_101' => ?_)
   refine a4 ?_
   refine wm ?_
   refine wm ?_
   refine wv (OV.len rfl j7) ?_
   refine wv (OV.geq rfl rfl) ?_
   refine wm ?_
   obtain ⟨o_102', h⟩ := h
   refine WL.cut 5 [(1, zI from0), (9, zI i_8'), (10, zP b), (88, zB ((decide ((text.length : Int) ≤ i_8')) || (!decide (((text.getD i_8'.toNat 0).toNat : Int) = 125))))] ?_ (fun K0_102' hK_102' => ?_)
   rotate_left
   ·refine WL.split (decide ((text.length : Int) ≤ i_8')) (fun hb => ?_) (fun hb => ?_)
    ·refine WL.set 83 rfl (congrArg zB hb) ?_
     refine wk ?_
     refine wk ?_
     refine wk ?_
     refine wk ?_
     refine wv (OV.pickT rfl rfl) ?_
     refine WL.set 88 rfl (oT (v := !decide (((text.getD i_8'.toNat 0).toNat : Int) = 125)) hb) ?_
     exact WL.end_ (kg hK_102')
    ·have o_101' := o_102' hb
     refine WL.set 83 rfl (congrArg zB hb) ?_
     refine wm ?_
     refine wm ?_
     refine wv (OV.index rfl rfl j7 o_101') ?_
     refine wv (OV.neq rfl rfl) ?_
     refine wv (OV.pickF rfl rfl) ?_
     refine WL.set 88 rfl (oF (v := !decide (((text.getD i_8'.toNat 0).toNat : Int) = 125)) hb) ?_
     exact WL.end_ (kg hK_102')
   refine WL.nil ?_
   refine kg (hK_101' [(1, zI from0), (9, zI i_8'), (10, zP b), (88, zB ((decide ((text.length : Int) ≤ i_8')) || (!decide (((text.getD i_8'.toNat 0).toNat : Int) = 125))))] _ ?_)
   refine b6 (b := (decide ((text.length : Int) ≤ i_8')) || (!decide (((text.getD i_8'.toNat 0).toNat : Int) = 125))) rfl (fun hb => ?_) (fun hb => ?_)
   ·replace h := j4 h hb
    refine a6 (fun _ hK_103' => ?_)
    refine a4 ?_
    refine wm ?_
    refine wa ?_
    refine wa ?_
    refine wa ?_
    refine wa ?_
    refine wa ?_
    refine WL.nil ?_
    refine kg (hK_103' [(4, zI 0), (5, zI 0), (6, zI 0), (7, zI 20), (8, zI i_8')] _ ?_)
    refine c9 ?_
    exact hE.ret [] rfl rfl (.inl ⟨_, _, _, _, _, h, rfl⟩) (f9.of5 rfl (RV.tmp rfl) (RV.tmp rfl) (RV.tmp rfl) (RV.tmp rfl) (RV.tmp rfl))
   ·replace h := j5 h hb
    refine b7 ?_
    refine kg (hK_100' [(1, zI from0), (9, zI i_8'), (10, zP b)] _ ?_)
    refine a6 (fun _ hK_104' => ?_)
    refine a6 (fun _ hK_105' => ?_)
    refine a4 ?_
    refine wv (OV.indexAddr rfl rfl aan (by decide) rfl) ?_
    refine wv (OV.load rfl (At.own 0 rfl) (acu (by decide)) b5) ?_
    refine wv (OV.gtr rfl rfl) ?_
    refine wm ?_
    refine WL.cut 4 [(1, zI from0), (9, zI i_8'), (10, zP b), (97, zB ((decide (255 < v_9' 0)) || (decide (255 < v_9' 1))))] ?_ (fun K0_106' hK_106' => ?_)
    rotate_left
    ·refine WL.split (decide (255 < v_9' 0)) (fun hb => ?_) (fun hb => ?_)
     ·refine WL.set 93 rfl (congrArg zB hb) ?_
      refine wk ?_
      refine wk ?_
      refine wk ?_
      refine wv (OV.pickT rfl rfl) ?_
      refine WL.set 97 rfl (oT (v := decide (255 < v_9' 1)) hb) ?_
      exact WL.end_ (kg hK_106')
     ·refine WL.set 93 rfl (congrArg zB hb) ?_
      refine wv (OV.indexAddr rfl rfl aan (by decide) rfl) ?_
      refine wv (OV.load rfl (At.own 0 rfl) (acu (by decide)) b5) ?_
      refine wv (OV.gtr rfl rfl) ?_
      refine wv (OV.pickF rfl rfl) ?_
      refine WL.set 97 rfl (oF (v := decide (255 < v_9' 1)) hb) ?_
      exact WL.end_ (kg hK_106')
    refine wm ?_
    refine WL.cut 11 [(1, zI from0), (9, zI i_8'), (10, zP b), (109, zB (((decide (255 < v_9' 0)) || (decide (255 < v_9' 1))) || ((decide (0 ≤ v_9' 1)) && (decide (v_9' 1 < v_9' 0)))))] ?_ (fun K0_108' hK_108' => ?_)
    rotate_left
    ·refine WL.split ((decide (255 < v_9' 0)) || (decide (255 < v_9' 1))) (fun hb => ?_) (fun hb => ?_)
     ·refine WL.set 98 rfl (congrArg zB hb) ?_
      refine wk ?_
      refine wk ?_
      refine wk ?_
      refine wk ?_
      refine wk ?_
      refine wk ?_
      refine wk ?_
      refine wk ?_
      refine wk ?_
      refine wk ?_
      refine wv (OV.pickT rfl rfl) ?_
      refine WL.set 109 rfl (oT (v := (decide (0 ≤ v_9' 1)) && (decide (v_9' 1 < v_9' 0))) hb) ?_
      exact WL.end_ (kg hK_108')
     ·refine WL.set 98 rfl (congrArg zB hb) ?_
      refine wv (OV.indexAddr rfl rfl aan (by decide) rfl) ?_
      refine wv (OV.load rfl (At.own 0 rfl) (acu (by decide)) b5) ?_
      refine wv (OV.geq rfl rfl) ?_
      refine wm ?_
      refine WL.cut 6 [(1, zI from0), (9, zI i_8'), (10, zP b), (98, zB false), (108, zB ((decide (0 ≤ v_9' 1)) && (decide (v_9' 1 < v_9' 0))))] ?_ (fun K0_107' hK_107' => ?_)
      rotate_left
      ·refine WL.split (decide (0 ≤ v_9' 1)) (fun hb => ?_) (fun hb => ?_)
       ·refine WL.set 102 rfl (congrArg zB hb) ?_
        refine wv (OV.indexAddr rfl rfl aan (by decide) rfl) ?_
        refine wv (OV.load rfl (At.own 0 rfl) (acu (by decide)) b5) ?_
        refine wv (OV.indexAddr rfl rfl aan (by decide) rfl) ?_
        refine wv (OV.load rfl (At.own 0 rfl) (acu (by decide)) b5) ?_
        refine wv (OV.lss rfl rfl) ?_
        refine wv (OV.pickT rfl rfl) ?_
        refine WL.set 108 rfl (bT (v := decide (v_9' 1 < v_9' 0)) hb) ?_
        exact WL.end_ (kg hK_107')
       ·refine WL.set 102 rfl (congrArg zB hb) ?_
        refine wk ?_
        refine wk ?_
        refine wk ?_
        refine wk ?_
        refine wk ?_
        refine wv (OV.pickF rfl rfl) ?_
        refine WL.set 108 rfl (bF (v := decide (v_9' 1 < v_9' 0)) hb) ?_
        exact WL.end_ (kg hK_107')
      refine wv (OV.pickF rfl rfl) ?_
      refine WL.set 109 rfl (oF (v := (decide (0 ≤ v_9' 1)) && (decide (v_9' 1 < v_9' 0))) hb) ?_
      exact WL.end_ (kg hK_108')
    refine WL.nil ?_
    refine kg (hK_105' [(1, zI from0), (9, zI i_8'), (10, zP b), (109, zB (((decide (255 < v_9' 0)) || (decide (255 < v_9' 1))) || ((decide (0 ≤ v_9' 1)) && (decide (v_9' 1 < v_9' 0)))))] _ ?_)
    refine b6 (b := ((decide (255 < v_9' 0)) || (decide (255 < v_9' 1))) || ((decide (0 ≤ v_9' 1)) && (decide (v_9' 1 < v_9' 0)))) rfl (fun hb => ?_) (fun hb => ?_)
    ·replace h := j4 h hb
     refine a6 (fun _ hK_109' => ?_)
     refine a4 ?_
     refine wm ?_
     refine wa ?_
     refine wa ?_
     refine wa ?_
     refine wa ?_
     refine wa ?_
     refine WL.nil ?_
     refine kg (hK_109' [(4, zI 0), (5, zI 0), (6, zI 0), (7, zI 22), (8, zI from0)] _ ?_)
     refine c9 ?_
     exact hE.ret [] rfl rfl (.inl ⟨_, _, _, _, _, h, rfl⟩) (f9.of5 rfl (RV.tmp rfl) (RV.tmp rfl) (RV.tmp rfl) (RV.tmp rfl) (RV.tmp rfl))
    ·replace h := j5 h hb
     refine b7 ?_
     refine kg (hK_104' [(9, zI i_8'), (10, zP b)] _ ?_)
     refine a6 (fun _ hK_110' => ?_)
     refine q9 8 [] g8 (by kernel_rfl) rfl (fun T_9' hT_9' => ?_)
     refine fv (fun _ => OV.indexAddr rfl rfl aan (by decide) rfl) ?_
     refine fv (fun _ => OV.load rfl (At.own 0 rfl) (acu (by decide)) b5) ?_
     refine fv (fun _ => OV.indexAddr rfl rfl aan (by decide) rfl) ?_
     refine fv (fun _ => OV.load rfl (At.own 0 rfl) (acu (by decide)) b5) ?_
     refine fv (fun _ => OV.move rfl) ?_
     obtain ⟨o_106', h⟩ := h
     refine fv (fun _ => OV.add rfl rfl o_106') ?_
     refine fv (fun _ => OV.assign rfl) ?_
     refine fv (fun _ => OV.assign rfl) ?_
     refine FL.weak (L' := fun γ => [(4, zI (v_9' 0)), (5, zI (v_9' 1)), (116, zI (i_8' + 1))]) (fun γ => ⟨rfl, rfl, rfl, trivial⟩) (FL.nil (hT_9' (fun γ => [(4, zI (v_9' 0)), (5, zI (v_9' 1)), (116, zI (i_8' + 1))]) (fun γ => ?_)))
     refine wa ?_
     refine wa ?_
     refine wa ?_
     refine WL.nil ?_
     refine kg (hK_110' [(4, zI (v_9' 0)), (5, zI (v_9' 1)), (6, zI (i_8' + 1)), (7, zI 0), (8, zI 0)] _ ?_)
     refine c9 ?_
     exact hE.ret [] rfl rfl (.inl ⟨_, _, _, _, _, h, rfl⟩) (f9.of5 rfl (RV.tmp rfl) (RV.tmp rfl) (RV.tmp rfl) (RV.tmp rfl) (RV.tmp rfl))
  ·skip
   refine a6 (fun _ hK_111' => ?_)
   refine a4 ?_
   refine wm ?_
   refine wv (OV.eql rfl rfl) ?_
   refine WL.nil ?_
   refine kg (hK_111' [(0, st text), (1, zI from0), (9, zI i_8'), (10, zP b), (75, zB (decide (got_2' = 1)))] _ ?_)
   refine b6 (b := decide (got_2' = 1)) rfl (fun hb => ?_) (fun hb => ?_)
   ·replace h := j4 h hb
    refine a4 ?_
    refine wv (OV.indexAddr rfl rfl aan (by decide) rfl) ?_
    refine wv (OV.load rfl (At.own 0 rfl) (acu (by decide)) b5) ?_
    refine wv (OV.indexAddr rfl rfl aan (by decide) rfl) ?_
    refine WL.storeA' (f' := fun j => zI (if j = 1 then v_8' 0 else v_8' j)) 0 rfl rfl rfl rfl g9 (by first | decide | omega) rfl rfl (fun j => by by_cases hj : j = 1 <;> simp [hj]) ?_
    refine WL.nil ?_
    exact kh (hK_99' (fun j => if j = 1 then v_8' 0 else v_8' j) h) [0]
   ·replace h := j5 h hb
    refine b7 ?_
    exact kh (hK_99' v_8' h) [0]
 ·skip
  refine d6 ?_
  obtain ⟨Inv_6', mu_6', h0_6', hr_6'⟩ := h
  refine w9 (S := Int × Int × (Nat → Int)) (fun σ => Inv_6' σ.1 σ.2.1 σ.2.2) (fun σ => mu_6' σ.1 σ.2.1 σ.2.2) (fun σ => [(0, st text), (1, zI from0), (9, zI σ.1), (10, zP b), (11, zI σ.2.1)]) (fun σ => [HA.blk b (.cells (arr 2 (fun j => zI (σ.2.2 j))).toArray 92 (0, 0))]) (from0 + 1, 0, fun _ => 0) h0_6' ⟨rfl, rfl, rfl, rfl, rfl, trivial⟩ rfl ?_
  rintro ⟨i_14', got_4', v_15'⟩ hi K0_173' hK_173'
  have h := hr_6' i_14' got_4' v_15' hi
  show WC _ _ _ _ [(0, st text), (1, zI from0), (9, zI i_14'), (10, zP b), (11, zI got_4')] [HA.blk b (.cells (arr 2 (fun j => zI (v_15' j))).toArray 92 (0, 0))]
  refine a6 (fun _ hK_174' => ?_)
  refine a6 (fun _ hK_175' => ?_)
  refine a4 ?_
  refine wm ?_
  refine wv (OV.lss rfl rfl) ?_
  refine WL.nil ?_
  refine kg (hK_175' [(0, st text), (1, zI from0), (9, zI i_14'), (10, zP b), (11, zI got_4'), (16, zB (decide (got_4' < 2)))] _ ?_)
  refine b6 (b := decide (got_4' < 2)) rfl (fun hb => ?_) (fun hb => ?_)
  ·replace h := j4 h hb
   refine b7 ?_
   refine kg (hK_174' [(0, st text), (1, zI from0), (9, zI i_14'), (10, zP b), (11, zI got_4')] _ ?_)
   refine d6 ?_
   refine a6 (fun _ hK_176' => ?_)
   refine a6 (fun _ hK_177' => ?_)
   refine a4 ?_
   refine wm ?_
   refine wm ?_
   obtain ⟨o_171', h⟩ := h
   refine WL.call (A := []) apw rfl (ang text i_14' o_171') rfl trivial rfl rfl ?_
   refine wv (OV.not rfl) ?_
   refine WL.nil ?_
   refine kg (hK_177' [(0, st text), (1, zI from0), (9, zI i_14'), (10, zP b), (11, zI got_4'), (20, zB (!(ab0 text i_14')))] _ ?_)
   refine b6 (b := !(ab0 text i_14')) rfl (fun hb => ?_) (fun hb => ?_)
   ·replace h := j4 h hb
    refine a6 (fun _ hK_178' => ?_)
    refine a4 ?_
    refine wm ?_
    refine wa ?_
    refine wa ?_
    refine wa ?_
    refine wa ?_
    refine wa ?_
    refine WL.nil ?_
    refine kg (hK_178' [(4, zI 0), (5, zI 0), (6, zI 0), (7, zI 20), (8, zI i_14')] _ ?_)
    refine c9 ?_
    exact hE.ret [] rfl rfl (.inl ⟨_, _, _, _, _, h, rfl⟩) (f9.of5 rfl (RV.tmp rfl) (RV.tmp rfl) (RV.tmp rfl) (RV.tmp rfl) (RV.tmp rfl))
   ·replace h := j5 h hb
    refine b7 ?_
    refine kg (hK_176' [(0, st text), (1, zI from0), (9, zI i_14'), (10, zP b), (11, zI got_4')] _ ?_)
    refine a6 (fun _ hK_179' => ?_)
    refine a6 (fun _ hK_180' => ?_)
    refine a4 ?_
    refine wa ?_
    refine WL.nil ?_
    refine kg (hK_180' [(0, st text), (1, zI from0), (9, zI i_14'), (10, zP b), (11, zI got_4'), (12, zI 0)] _ ?_)
    refine d6 ?_
    obtain ⟨Inv_7', mu_7', h0_7', hr_7'⟩ := h
    refine w9 (S := Int × Int × (Nat → Int)) (fun σ => Inv_7' σ.1 σ.2.1 σ.2.2) (fun σ => mu_7' σ.1 σ.2.1 σ.2.2) (fun σ => [(0, st text), (1, zI from0), (9, zI σ.1), (10, zP b), (11, zI got_4'), (12, zI σ.2.1)]) (fun σ => [HA.blk b (.cells (arr 2 (fun j => zI (σ.2.2 j))).toArray 92 (0, 0))]) (i_14', 0, v_15') h0_7' ⟨rfl, rfl, rfl, rfl, rfl, rfl, trivial⟩ rfl ?_
    rintro ⟨i_16', k_11', v_17'⟩ hi K0_190' hK_190'
    have h := hr_7' i_16' k_11' v_17' hi
    show WC _ _ _ _ [(0, st text), (1, zI from0), (9, zI i_16'), (10, zP b), (11, zI got_4'), (12, zI k_11')] [HA.blk b (.cells (arr 2 (fun j => zI (v_17' j))).toArray 92 (0, 0))]
    refine a6 (fun _ hK_191' => ?_)
    refine a6 (fun _ hK_192' => ?_)
    refine a4 ?_
    refine wm ?_
    refine wv (OV.lss rfl rfl) ?_
    refine wm ?_
    obtain ⟨o_191', h⟩ := h
    refine WL.cut 4 [(0, st text), (1, zI from0), (9, zI i_16'), (10, zP b), (11, zI got_4'), (12, zI k_11'), (28, zB ((decide (k_11' < 3)) && (ab0 text i_16')))] ?_ (fun K0_193' hK_193' => ?_)
    rotate_left
    ·refine WL.split (decide (k_11' < 3)) (fun hb => ?_) (fun hb => ?_)
     ·have o_190' := o_191' hb
      refine WL.set 24 rfl (congrArg zB hb) ?_
      refine wm ?_
      refine wm ?_
      refine WL.call (A := []) apw rfl (ang text i_16' o_190') rfl trivial rfl rfl ?_
      refine wv (OV.pickT rfl rfl) ?_
      refine WL.set 28 rfl (bT (v := ab0 text i_16') hb) ?_
      exact WL.end_ (kg hK_193')
     ·refine WL.set 24 rfl (congrArg zB hb) ?_
      refine wk ?_
      refine wk ?_
      refine wk ?_
      refine wv (OV.pickF rfl rfl) ?_
      refine WL.set 28 rfl (bF (v := ab0 text i_16') hb) ?_
      exact WL.end_ (kg hK_193')
    refine WL.nil ?_
    refine kg (hK_192' [(0, st text), (1, zI from0), (9, zI i_16'), (10, zP b), (11, zI got_4'), (12, zI k_11'), (28, zB ((decide (k_11' < 3)) && (ab0 text i_16')))] _ ?_)
    refine b6 (b := (decide (k_11' < 3)) && (ab0 text i_16')) rfl (fun hb => ?_) (fun hb => ?_)
    ·replace h := j4 h hb
     refine b7 ?_
     refine kg (hK_191' [(0, st text), (1, zI from0), (9, zI i_16'), (10, zP b), (11, zI got_4'), (12, zI k_11')] _ ?_)
     refine a6 (fun _ hK_194' => ?_)
     refine d6 ?_
     refine a6 (fun _ hK_195' => ?_)
     refine q9 11 [] g8 (by kernel_rfl) rfl (fun T_18' hT_18' => ?_)
     refine fv (fun _ => OV.move rfl) ?_
     refine fv (fun _ => OV.move rfl) ?_
     obtain ⟨o_192', h⟩ := h
     refine fv (fun _ => OV.indexAddr1 rfl rfl aan o_192') ?_
     refine fv (fun _ => OV.load rfl (At.own 0 rfl) (acu (by first | omega | assumption)) b5) ?_
     obtain ⟨o_193', h⟩ := h
     refine fv (fun _ => OV.mul rfl rfl o_193') ?_
     refine fv (fun _ => OV.move rfl) ?_
     refine fv (fun _ => OV.move rfl) ?_
     obtain ⟨o_194', h⟩ := h
     refine fv (fun _ => OV.index rfl rfl j7 o_194') ?_
     refine fv (fun _ => OV.subW rfl rfl) ?_
     obtain ⟨o_195', h⟩ := h
     refine fv (fun _ => OV.conv64 rfl ack Tryd.underlying3 o_195') ?_
     obtain ⟨o_196', h⟩ := h
     refine fv (fun _ => OV.add rfl rfl o_196') ?_
     refine FL.weak (L' := fun γ => [(0, st text), (1, zI from0), (9, zI i_16'), (10, zP b), (11, zI got_4'), (12, zI k_11'), (31, zI got_4'), (41, zI ((10 * (v_17' ((got_4').toNat))) + (IntKind.wrap .u8 (((text.getD i_16'.toNat 0).toNat : Int) - 48))))]) (fun γ => ⟨rfl, rfl, rfl, rfl, rfl, rfl, rfl, rfl, trivial⟩) (FL.nil (hT_18' (fun γ => [(0, st text), (1, zI from0), (9, zI i_16'), (10, zP b), (11, zI got_4'), (12, zI k_11'), (31, zI got_4'), (41, zI ((10 * (v_17' ((got_4').toNat))) + (IntKind.wrap .u8 (((text.getD i_16'.toNat 0).toNat : Int) - 48))))]) (fun γ => ?_)))
     obtain ⟨o_197', h⟩ := h
     refine wv (OV.indexAddr1 rfl rfl aan o_197') ?_
     refine WL.storeA' (f' := fun j => zI (if j = (got_4').toNat then (10 * (v_17' ((got_4').toNat))) + (IntKind.wrap .u8 (((text.getD i_16'.toNat 0).toNat : Int) - 48)) else v_17' j)) 0 rfl rfl rfl rfl g9 (by first | decide | omega) rfl rfl (fun j => by by_cases hj : j = (got_4').toNat <;> simp [hj]) ?_
     refine WL.nil ?_
     refine kg (hK_195' [(0, st text), (1, zI from0), (9, zI i_16'), (10, zP b), (11, zI got_4'), (12, zI k_11')] _ ?_)
     refine a4 ?_
     refine wm ?_
     obtain ⟨o_198', h⟩ := h
     refine wv (OV.add rfl rfl o_198') ?_
     refine wa ?_
     refine WL.nil ?_
     refine kg (hK_194' [(0, st text), (1, zI from0), (9, zI (i_16' + 1)), (10, zP b), (11, zI got_4'), (12, zI k_11')] _ ?_)
     refine a4 ?_
     refine wm ?_
     obtain ⟨o_199', h⟩ := h
     refine wv (OV.add rfl rfl o_199') ?_
     refine wa ?_
     refine WL.nil ?_
     exact kh (hK_190' (i_16' + 1, k_11' + 1, fun j => if j = (got_4').toNat then (10 * (v_17' ((got_4').toNat))) + (IntKind.wrap .u8 (((text.getD i_16'.toNat 0).toNat : Int) - 48)) else v_17' j) h.1 h.2) [0]
    ·replace h := j5 h hb
     refine s5 ?_
     refine kg (hK_179' [(0, st text), (1, zI from0), (9, zI i_16'), (10, zP b), (11, zI got_4')] _ ?_)
     refine a6 (fun _ hK_196' => ?_)
     refine a4 ?_
     refine wm ?_
     obtain ⟨o_200', h⟩ := h
     refine wv (OV.add rfl rfl o_200') ?_
     refine wa ?_
     refine WL.nil ?_
     refine kg (hK_196' [(0, st text), (1, zI from0), (9, zI i_16'), (10, zP b), (11, zI (got_4' + 1))] _ ?_)
     refine a6 (fun _ hK_197' => ?_)
     refine a6 (fun _ hK_198' => ?_)
     refine a4 ?_
     refine wm ?_
     refine wv (OV.eql rfl rfl) ?_
     refine wm ?_
     refine WL.cut 5 [(0, st text), (1, zI from0), (9, zI i_16'), (10, zP b), (11, zI (got_4' + 1)), (54, zB ((decide (got_4' + 1 = 2)) || (decide ((text.length : Int) ≤ i_16'))))] ?_ (fun K0_199' hK_199' => ?_)
     rotate_left
     ·refine WL.split (decide (got_4' + 1 = 2)) (fun hb => ?_) (fun hb => ?_)
      ·refine WL.set 49 rfl (congrArg zB hb) ?_
       refine wk ?_
       refine wk ?_
       refine wk ?_
       refine wk ?_
       refine wv (OV.pickT rfl rfl) ?_
       refine WL.set 54 rfl (oT (v := decide ((text.length : Int) ≤ i_16')) hb) ?_
       exact WL.end_ (kg hK_199')
      ·refine WL.set 49 rfl (congrArg zB hb) ?_
       refine wm ?_
       refine wm ?_
       refine wv (OV.len rfl j7) ?_
       refine wv (OV.geq rfl rfl) ?_
       refine wv (OV.pickF rfl rfl) ?_
       refine WL.set 54 rfl (oF (v := decide ((text.length : Int) ≤ i_16')) hb) ?_
       exact WL.end_ (kg hK_199')
     refine wm ?_
     obtain ⟨o_203', h⟩ := h
     refine WL.cut 5 [(0, st text), (1, zI from0), (9, zI i_16'), (10, zP b), (11, zI (got_4' + 1)), (60, zB (((decide (got_4' + 1 = 2)) || (decide ((text.length : Int) ≤ i_16'))) || (!decide (((text.getD i_16'.toNat 0).toNat : Int) = 44))))] ?_ (fun K0_200' hK_200' => ?_)
     rotate_left
     ·refine WL.split ((decide (got_4' + 1 = 2)) || (decide ((text.length : Int) ≤ i_16'))) (fun hb => ?_) (fun hb => ?_)
      ·refine WL.set 55 rfl (congrArg zB hb) ?_
       refine wk ?_
       refine wk ?_
       refine wk ?_
       refine wk ?_
       refine wv (OV.pickT rfl rfl) ?_
       refine WL.set 60 rfl (oT (v := !decide (((text.getD i_16'.toNat 0).toNat : Int) = 44)) hb) ?_
       exact WL.end_ (kg hK_200')
      ·have o_202' := o_203' hb
       refine WL.set 55 rfl (congrArg zB hb) ?_
       refine wm ?_
       refine wm ?_
       refine wv (OV.index rfl rfl j7 o_202') ?_
       refine wv (OV.neq rfl rfl) ?_
       refine wv (OV.pickF rfl rfl) ?_
       refine WL.set 60 rfl (oF (v := !decide (((text.getD i_16'.toNat 0).toNat : Int) = 44)) hb) ?_
       exact WL.end_ (kg hK_200')
     refine WL.nil ?_
     refine kg (hK_198' [(0, st text), (1, zI from0), (9, zI i_16'), (10, zP b), (11, zI (got_4' + 1)), (60, zB (((decide (got_4' + 1 = 2)) || (decide ((text.length : Int) ≤ i_16'))) || (!decide (((text.getD i_16'.toNat 0).toNat : Int) = 44))))] _ ?_)
     refine b6 (b := ((decide (got_4' + 1 = 2)) || (decide ((text.length : Int) ≤ i_16'))) || (!decide (((text.getD i_16'.toNat 0).toNat : Int) = 44))) rfl (fun hb => ?_) (fun hb => ?_)
     ·replace h := j4 h hb
      refine s5 ?_
      exact kh (hK_97' (i_16', got_4' + 1, v_17') h) [0]
     ·replace h := j5 h hb
      refine b7 ?_
      refine kg (hK_197' [(0, st text), (1, zI from0), (9, zI i_16'), (10, zP b), (11, zI (got_4' + 1))] _ ?_)
      refine a6 (fun _ hK_201' => ?_)
      refine a4 ?_
      refine wm ?_
      obtain ⟨o_204', h⟩ := h
      refine wv (OV.add rfl rfl o_204') ?_
      refine wa ?_
      refine WL.nil ?_
      refine kg (hK_201' [(0, st text), (1, zI from0), (9, zI (i_16' + 1)), (10, zP b), (11, zI (got_4' + 1))] _ ?_)
      refine a6 (fun _ hK_202' => ?_)
      refine a4 ?_
      refine wm ?_
      refine wm ?_
      refine wv (OV.len rfl j7) ?_
      refine wv (OV.lss rfl rfl) ?_
      refine wm ?_
      obtain ⟨o_206', h⟩ := h
      refine WL.cut 5 [(0, st text), (1, zI from0), (9, zI (i_16' + 1)), (10, zP b), (11, zI (got_4' + 1)), (72, zB ((decide (i_16' + 1 < (text.length : Int))) && (decide (((text.getD (i_16' + 1).toNat 0).toNat : Int) = 125))))] ?_ (fun K0_203' hK_203' => ?_)
      rotate_left
      ·refine WL.split (decide (i_16' + 1 < (text.length : Int))) (fun hb => ?_) (fun hb => ?_)
       ·have o_205' := o_206' hb
        refine WL.set 67 rfl (congrArg zB hb) ?_
        refine wm ?_
        refine wm ?_
        refine wv (OV.index rfl rfl j7 o_205') ?_
        refine wv (OV.eql rfl rfl) ?_
        refine wv (OV.pickT rfl rfl) ?_
        refine WL.set 72 rfl (bT (v := decide (((text.getD (i_16' + 1).toNat 0).toNat : Int) = 125)) hb) ?_
        exact WL.end_ (kg hK_203')
       ·refine WL.set 67 rfl (congrArg zB hb) ?_
        refine wk ?_
        refine wk ?_
        refine wk ?_
        refine wk ?_
        refine wv (OV.pickF rfl rfl) ?_
        refine WL.set 72 rfl (bF (v := decide (((text.getD (i_16' + 1).toNat 0).toNat : Int) = 125)) hb) ?_
        exact WL.end_ (kg hK_203')
      refine WL.nil ?_
      refine kg (hK_202' [(0, st text), (1, zI from0), (9, zI (i_16' + 1)), (10, zP b), (11, zI (got_4' + 1)), (72, zB ((decide (i_16' + 1 < (text.length : Int))) && (decide (((text.getD (i_16' + 1).toNat 0).toNat : Int) = 125))))] _ ?_)
      refine b6 (b := (decide (i_16' + 1 < (text.length : Int))) && (decide (((text.getD (i_16' + 1).toNat 0).toNat : Int) = 125))) rfl (fun hb => ?_) (fun hb => ?_)
      ·replace h := j4 h hb
       refine a6 (fun _ hK_204' => ?_)
       refine a4 ?_
       refine wv (OV.indexAddr rfl rfl aan (by decide) rfl) ?_
       refine WL.storeA' (f' := fun j => zI (if j = 1 then (-1) else v_17' j)) 0 rfl rfl rfl rfl g9 (by first | decide | omega) rfl rfl (fun j => by by_cases hj : j = 1 <;> simp [hj]) ?_
       refine WL.nil ?_
       refine kg (hK_204' [(0, st text), (1, zI from0), (9, zI (i_16' + 1)), (10, zP b)] _ ?_)
       refine a4 ?_
       refine wa ?_
       refine WL.nil ?_
       exact kh (hK_173' (i_16' + 1, 2, fun j => if j = 1 then (-1) else v_17' j) h.1 h.2) [0]
      ·replace h := j5 h hb
       refine b7 ?_
       exact kh (hK_173' (i_16' + 1, got_4' + 1, v_17') h.1 h.2) [0]
  ·replace h := j5 h hb
   refine s5 ?_
   exact kh (hK_97' (i_14', got_4', v_15') h) [0]
theorem ap5 (t : List UInt8) (i : Int) (h : 0 ≤ i ∧ i < (t.length : Int) ∧ t.length ≤ 1048576) : d5 Tryd.prog 16 [st t, .int .i64 i] [] []
  (fun o => ∃ m n k e p, BrR t i m n k e p ∧ o = .ret (.tuple #[.int .i64 m, .int .i64 n, .int .i64 k, .int .i64 e, .int .i64 p]) []) := by
 obtain ⟨h0, h1, h2⟩ := h
 refine (aui t i (fun m n k e p => BrR t i m n k e p) ?_).weak ?_
 ·unfold ai0
  refine ⟨by unfold I64; omega, fun q got v => got = 1 ∧ acr t (i + 1) = .ok (v 0, q) ∧ ads t (v 0) q = .ok (v 0, q) ∧ 0 ≤ q ∧ q ≤ t.length ∨ got = 2 ∧ ∃ j, acr t (i + 1) = .ok (v 0, j) ∧ ads t (v 0) j = .ok (v 1, q) ∧ 0 ≤ q ∧ q ≤ t.length, ?_,
   fun q got v => got = 0 ∧ q = i + 1 ∧ v 0 = 0 ∧ v 1 = 0 ∨ got = 1 ∧ v 1 = 0 ∧ (∃ j, acr t (i + 1) = .ok (v 0, j) ∧ j < t.length ∧ 0 ≤ j ∧ nx t j = 44 ∧ q = j + 1 ∧ ¬ (j + 1 < t.length ∧ nx t (j + 1) = 125)) ∨ got = 2 ∧ ∃ j, acr t (i + 1) = .ok (v 0, j) ∧ ads t (v 0) j = .ok (v 1, q) ∧ 0 ≤ q ∧ q ≤ t.length,
   fun _ got _ => (2 - got).toNat, .inl ⟨rfl, rfl, rfl, rfl⟩, ?_⟩
  ·rintro q got v hJ
   refine ⟨fun u => u 0 = v 0 ∧ 0 ≤ q ∧ q ≤ t.length ∧ ∃ j, acr t (i + 1) = .ok (v 0, j) ∧ ads t (v 0) j = .ok (u 1, q), ?_, ?_⟩
   ·rintro u ⟨u0, q0, q1, j, hm, hc⟩
    refine ⟨fun _ => ⟨q0, by simp_all⟩, ?_⟩
    by_cases hk : q < t.length ∧ nx t q = 125
    ·rw [if_neg (by simp only [Bool.or_eq_true, decide_eq_true_eq, Bool.not_eq_true', decide_eq_false_iff_not]; have := hk.2; unfold nx at this; omega)]
     rw [u0]
     by_cases hz : v 0 > 255 ∨ u 1 > 255 ∨ (0 ≤ u 1 ∧ u 1 < v 0)
     ·rw [if_pos (by simp; omega)]
      exact .inr ⟨by omega, by simp only [abv, hm, hc, if_pos hk, if_pos hz]⟩
     ·rw [if_neg (by simp; omega)]
      exact ⟨by unfold I64; omega, .inl ⟨rfl, by simp only [abv, hm, hc, if_pos hk, if_neg hz]⟩⟩
    ·rw [if_pos (by simp only [Bool.or_eq_true, decide_eq_true_eq, Bool.not_eq_true', decide_eq_false_iff_not]; unfold nx at hk; omega)]
     exact .inr ⟨by omega, by simp only [abv, hm, hc, if_neg hk]⟩
   ·rcases hJ with ⟨rfl, hm, hc, q0, q1⟩ | ⟨rfl, j, hm, hc, q0, q1⟩
    ·rw [if_pos (by simp)]
     exact ⟨by simp, q0, q1, q, hm, by simpa using hc⟩
    ·rw [if_neg (by simp)]
     exact ⟨rfl, q0, q1, j, hm, hc⟩
  ·rintro q got v hI
   by_cases hg : got < 2
   ·rw [if_pos (by simpa using hg)]
    have hq : 0 ≤ q ∧ q ≤ t.length ∧ 0 ≤ got ∧ v got.toNat = 0 := by
     rcases hI with ⟨rfl, rfl, h3, h4⟩ | ⟨rfl, h4, j, _, h5, h6, _, rfl, _⟩ | ⟨rfl, _⟩
     ·exact ⟨by omega, by omega, by omega, h3⟩
     ·exact ⟨by omega, by omega, by omega, h4⟩
     ·omega
    obtain ⟨q0, q1, g0, hv0⟩ := hq
    refine ⟨q0, ?_⟩
    by_cases hd : ab0 t q = true
    ·rw [if_neg (by simp [hd])]
     refine ⟨fun p k u => ∃ f : Nat, k = 3 - f ∧ f ≤ 3 ∧ p = q + k ∧ p ≤ t.length ∧ (∀ j, j ≠ got.toNat → u j = v j) ∧ 0 ≤ u got.toNat ∧ (k = 0 ∧ u got.toNat ≤ 0 ∨ k = 1 ∧ u got.toNat ≤ 9 ∨ k = 2 ∧ u got.toNat ≤ 99 ∨ k = 3 ∧ u got.toNat ≤ 999) ∧ ael t 3 0 q = ael t f (u got.toNat) p,
      fun _ k _ => (3 - k).toNat, ⟨3, by omega, by omega, by omega, q1, fun _ _ => rfl, by omega, by omega, by rw [hv0]⟩, ?_⟩
     rintro p k u ⟨f, k1, k2, k3, k4, k5, k6, k7, k8⟩
     have hb := az2 t p
     refine ⟨fun _ => by omega, ?_⟩
     by_cases hc : k < 3 ∧ ab0 t p = true
     ·rw [if_pos (by simp [hc.1, hc.2])]
      have hdg := hc.2
      simp only [ab0, Bool.and_eq_true, decide_eq_true_eq] at hdg
      have hw : IntKind.wrap .u8 (nx t p - 48) = nx t p - 48 := IntWalk.u8_in _ (by omega)
      have hw' : IntKind.wrap .u8 (((t.getD p.toNat 0).toNat : Int) - 48) = nx t p - 48 := hw
      rw [hw']
      refine ⟨⟨g0, hg⟩, by unfold I64; omega, ⟨by omega, hdg.1.1⟩, by unfold I64; omega, by unfold I64; omega, ⟨g0, hg⟩, by unfold I64; omega, by unfold I64; omega, ⟨f - 1, by omega, by omega, by omega, by omega, fun j hj => (if_neg hj).trans (k5 j hj), ?_, ?_, ?_⟩, by show (3 - (k + 1)).toNat < (3 - k).toNat; omega⟩
      ·rw [show (fun j => if j = got.toNat then 10 * u got.toNat + (nx t p - 48) else u j) got.toNat = 10 * u got.toNat + (nx t p - 48) from if_pos rfl]; omega
      ·rw [show (fun j => if j = got.toNat then 10 * u got.toNat + (nx t p - 48) else u j) got.toNat = 10 * u got.toNat + (nx t p - 48) from if_pos rfl]; omega
      ·rw [show (fun j => if j = got.toNat then 10 * u got.toNat + (nx t p - 48) else u j) got.toNat = 10 * u got.toNat + (nx t p - 48) from if_pos rfl, k8]
       obtain ⟨f', rfl⟩ : ∃ f', f = f' + 1 := ⟨f - 1, by omega⟩
       rw [ael, if_pos ⟨hdg.1.1, by simp [arj]; omega⟩]; rfl
     ·rw [if_neg (by simp only [Bool.and_eq_true, decide_eq_true_eq]; exact hc)]
      have hN : ael t 3 0 q = (u got.toNat, p) := by
       rw [k8]
       cases f with
       | zero => rfl
       | succ f' =>
        rw [ael, if_neg (fun hn => hc ⟨by omega, by
         have := hn.2
         simp only [arj, Bool.and_eq_true, decide_eq_true_eq] at this
         simp only [ab0, Bool.and_eq_true, decide_eq_true_eq]
         exact ⟨⟨hn.1, this.1⟩, this.2⟩⟩)]
      have hne : ¬ p = q := fun e => hc ⟨by omega, by rw [e]; exact hd⟩
      have hM : acr t q = .ok (u got.toNat, p) := by unfold acr; rw [hN, if_neg hne]
      refine ⟨by unfold I64; omega, fun hz => ⟨by omega, by simp at hz; omega⟩, ?_⟩
      rcases hI with ⟨rfl, rfl, h3, h4⟩ | ⟨rfl, h4, j, hj1, hj2, hj3, hj4, rfl, hj5⟩ | ⟨rfl, _⟩
      ·-- behind the first number
       have hu1 : u 1 = 0 := by rw [k5 1 (by decide)]; exact h4
       by_cases hcm : p < t.length ∧ nx t p = 44
       ·rw [if_neg (by simp only [Bool.or_eq_true, decide_eq_true_eq, Bool.not_eq_true', decide_eq_false_iff_not]; have := hcm.2; unfold nx at this; omega)]
        refine ⟨by unfold I64; omega, fun hz => ⟨by omega, by simpa using hz⟩, ?_⟩
        by_cases hcl : p + 1 < t.length ∧ nx t (p + 1) = 125
        ·rw [if_pos (by simp only [Bool.and_eq_true, decide_eq_true_eq]; exact hcl)]
         refine ⟨.inr (.inr ⟨rfl, p, by simpa using hM, ?_, by omega, by omega⟩), by show (2 - 2 : Int).toNat < (2 - 0 : Int).toNat; omega⟩
         simp only [ads, if_pos hcm, if_pos hcl]; simp
        ·rw [if_neg (by simp only [Bool.and_eq_true, decide_eq_true_eq]; exact hcl)]
         exact ⟨.inr (.inl ⟨rfl, hu1, p, by simpa using hM, hcm.1, by omega, hcm.2, rfl, hcl⟩), by show (2 - (0 + 1) : Int).toNat < (2 - 0 : Int).toNat; omega⟩
       ·rw [if_pos (by simp only [Bool.or_eq_true, decide_eq_true_eq, Bool.not_eq_true', decide_eq_false_iff_not]; unfold nx at hcm; omega)]
        exact .inl ⟨rfl, by simpa using hM, by simp only [ads, if_neg hcm], by omega, by omega⟩
      ·-- behind the second
       rw [if_pos (by simp)]
       have hu0 : u 0 = v 0 := k5 0 (by decide)
       refine .inr ⟨rfl, j, by rw [hu0]; exact hj1, ?_, by omega, by omega⟩
       simp only [ads, if_pos (show j < t.length ∧ nx t j = 44 from ⟨hj2, hj4⟩), if_neg hj5]
       simpa using hM
      ·omega
    ·rw [if_pos (by simp [hd])]
     have hN : ael t 3 0 q = (0, q) := by
      rw [ael, if_neg (fun hn => hd (by
       have := hn.2
       simp only [arj, Bool.and_eq_true, decide_eq_true_eq] at this
       simp only [ab0, Bool.and_eq_true, decide_eq_true_eq]
       exact ⟨⟨hn.1, this.1⟩, this.2⟩))]
     have hM : acr t q = .error (20, q) := by unfold acr; rw [hN]; simp
     refine .inr ⟨by omega, ?_⟩
     rcases hI with ⟨rfl, rfl, h3, h4⟩ | ⟨rfl, h4, j, hj1, hj2, hj3, hj4, rfl, hj5⟩ | ⟨rfl, _⟩
     ·simp only [abv, hM]
     ·simp only [abv, hj1, ads, if_pos (show j < t.length ∧ nx t j = 44 from ⟨hj2, hj4⟩), if_neg hj5, hM]
     ·omega
   ·rw [if_neg (by simpa using hg)]
    rcases hI with ⟨rfl, _⟩ | ⟨rfl, _⟩ | hI
    ·omega
    ·omega
    ·exact .inr hI
 ·rintro o (⟨m, n, k, e, p, hK, rfl⟩ | h)
  ·exact ⟨m, n, k, e, p, hK, rfl⟩
  ·exact h.elim
end Go.Proofs.YtffhedoahdgniaaDoor
