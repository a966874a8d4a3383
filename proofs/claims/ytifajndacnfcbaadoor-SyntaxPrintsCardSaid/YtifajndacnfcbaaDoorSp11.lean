/-
  Merged: SyNd, SyNe, SyKp, SyLawPrints.
-/
import Derived.Test.YtifajndacnfcbaaDoorSp10
set_option maxRecDepth 100000
namespace Go.Proofs.YtifajndacnfcbaaDoor
open Go Go.RowKit
theorem agm : abf Tryd.prog 32 = some [Value.slice none 0 0, Value.slice none 0 0, zI 0] := by kernel_rfl
theorem atq : l6 Tryd.prog 18 = true := by kernel_rfl
theorem ac7 : o7 Tryd.prog 32 3 = true := by kernel_rfl
theorem v6 : RowT Tryd.prog 32 3 := ⟨by kernel_rfl, by kernel_rfl⟩
theorem aqu : abf Tryd.prog 43 = some [zI 0, st [], zI 0] := by kernel_rfl
theorem aqp : o7 Tryd.prog 43 3 = true := by kernel_rfl
theorem afz : e9 Tryd.prog 43 1 = some 1 := by kernel_rfl
theorem af2 : e9 Tryd.prog 43 2 = some 2 := by kernel_rfl
theorem abb : e9 Tryd.prog 32 1 = some 1 := by kernel_rfl
theorem aej : aaa Tryd.prog 30 = true := by kernel_rfl
theorem as5 : RowT Tryd.prog 43 3 := ⟨by kernel_rfl, by kernel_rfl⟩
theorem ae1 : slB Tryd.prog 30 43 3 = true := by kernel_rfl
theorem aqv : aew Tryd.prog 43 = some ([zI 0, st [], zI 0], 3, 32) := by kernel_rfl
theorem apr : o7 Tryd.prog 30 1 = true := by kernel_rfl
theorem af4 : e9 Tryd.prog 32 2 = some 2 := by kernel_rfl
def ah1 (text : List UInt8) (B : List (Nat × Obj)) (K : Value → Value → Int → Int → Int → (List (Nat × Obj)) → Prop) : Prop :=
 (
  (if (!decide ((b6 text).2.1 = 0)) = true then
   ∀ (R : List (Nat × Obj)), aaw (Value.slice none 0 0) 69 4 ([] : List NdV).length (([] : List NdV).flatMap ndC) R → ∀ (R_1' : List (Nat × Obj)), aaw (Value.slice none 0 0) 43 3 ([] : List RdV).length (([] : List RdV).flatMap rdC) R_1' → K (Value.slice none 0 0) (Value.slice none 0 0) 0 ((b6 text).2.1) ((b6 text).2.2) (R_1' ++ (R ++ B))
  else
   ∃ (J0 : Int → Int → Int → Int → (List NdV) → (List (Nat × Obj)) → (List RdV) → Prop),
    (∀ (c_1_2' : Int) (c_2_2' : Int) (c_3_2' : Int) (c_4_2' : Int) (l_4' : List NdV) (c_2' : List (Nat × Obj)) (l_5' : List RdV), J0 c_1_2' c_2_2' c_3_2' c_4_2' l_4' c_2' l_5' →
     (ag1 ((b6 text).1) c_1_2' c_3_2' (0 : Int)) ∧
     (RP ((b6 text).1) c_1_2' c_2_2' c_3_2' l_4' ∧ 0 ≤ (0 : Int) ∧ (0 : Int) ≤ 5) ∧
     (∀ (i_3' : Int) (k_9' : Int) (op_9' : Int) (er_9' : Int) (ea_9' : Int) (nl_3' : List NdV) (B_4' : List (Nat × Obj)), x8 (sE ((b6 text).1) (0 : Int).toNat (c_1_2'.toNat, c_2_2')) ((b6 text).1) c_2' l_4' c_1_2' c_2_2' c_3_2' c_4_2' i_3' k_9' op_9' er_9' ea_9' nl_3' B_4' →
      ∃ (J0_1' : Int → Int → Prop),
       (∀ (c_3_3' : Int) (c_4_3' : Int), J0_1' c_3_3' c_4_3' →
        (if (!decide (c_3_3' = 0)) = true then
         K (Value.slice none 0 0) (Value.slice none 0 0) 0 c_3_3' c_4_3' B_4'
        else
         ∀ (w_13' : Value) (R_2' : List (Nat × Obj)), aaw w_13' 69 4 nl_3'.length (nl_3'.flatMap ndC) R_2' → ∀ (w_12' : Value) (R_3' : List (Nat × Obj)), aaw w_12' 43 3 l_5'.length (l_5'.flatMap rdC) R_3' → K w_13' w_12' i_3' 0 0 (R_3' ++ (R_2' ++ B_4')))) ∧
       ((decide (er_9' = 0)) = true → (0 ≤ k_9' ∧ k_9' < (((b6 text).1).length : Int))) ∧
       (if ((decide (er_9' = 0)) && (!decide ((((b6 text).1).getD (k_9').toNat default).1 = 0))) = true then
        (0 ≤ k_9' ∧ k_9' < (((b6 text).1).length : Int)) ∧
        J0_1' (aca er_9' (60 : Int)) (acd ((b6 text).1) k_9' er_9' ea_9')
       else
        J0_1' er_9' ea_9'))) ∧
    ∃ (Inv_1' : (List RdV) → (List NdV) → Int → Int → Int → Int → (List (Nat × Obj)) → Prop) (mu_1' : (List RdV) → (List NdV) → Int → Int → Int → Int → (List (Nat × Obj)) → Nat),
     Inv_1' [] [] 0 0 0 0 B ∧ ∀ (l_8' : List RdV) (l_9' : List NdV) (c_1_4' : Int) (c_2_4' : Int) (c_3_5' : Int) (c_4_5' : Int) (c_4' : List (Nat × Obj)), Inv_1' l_8' l_9' c_1_4' c_2_4' c_3_5' c_4_5' c_4' →
      ((decide (c_3_5' = 0)) = true → (0 ≤ c_1_4' ∧ c_1_4' < (((b6 text).1).length : Int))) ∧
      (((decide (c_3_5' = 0)) && (decide ((((b6 text).1).getD (c_1_4').toNat default).1 = 1))) = true → (0 ≤ c_1_4' ∧ c_1_4' < (((b6 text).1).length : Int))) ∧
      (if (((decide (c_3_5' = 0)) && (decide ((((b6 text).1).getD (c_1_4').toNat default).1 = 1))) && (decide ((((b6 text).1).getD (c_1_4').toNat default).2.2 = ([108, 101, 116] : List UInt8)))) = true then
       (I64 (c_1_4' + 1)) ∧
       (0 ≤ (c_1_4' + 1) ∧ (c_1_4' + 1) < (((b6 text).1).length : Int)) ∧
       (0 ≤ (c_1_4' + 1) ∧ (c_1_4' + 1) < (((b6 text).1).length : Int)) ∧
       (0 ≤ (c_1_4' + 1) ∧ (c_1_4' + 1) < (((b6 text).1).length : Int)) ∧
       (if ((!decide ((((b6 text).1).getD ((c_1_4' + 1)).toNat default).1 = 1)) || (!decide (d4 ((((b6 text).1).getD ((c_1_4' + 1)).toNat default).2.2) = 0))) = true then
        (0 ≤ (c_1_4' + 1) ∧ (c_1_4' + 1) < (((b6 text).1).length : Int)) ∧
        J0 (c_1_4' + 1) c_2_4' (aca c_3_5' (60 : Int)) (acd ((b6 text).1) (c_1_4' + 1) c_3_5' c_4_5') l_9' c_4' l_8'
       else
        (I64 ((c_1_4' + 1) + 1)) ∧
        ((0 ≤ ((c_1_4' + 1) + 1) ∧ ((c_1_4' + 1) + 1) < (((b6 text).1).length : Int)) ∧ (0 ≤ c_2_4' ∧ c_2_4' ≤ 64) ∧ ((b6 text).1).length ≤ 10000) ∧
        (∀ (k_16' : Int) (op_16' : Int) (er_16' : Int) (ea_16' : Int), aa5 ((b6 text).1) ((c_1_4' + 1) + 1) c_2_4' c_3_5' c_4_5' ([61] : List UInt8) = (k_16', op_16', er_16', ea_16') →
         (ag1 ((b6 text).1) k_16' er_16' (0 : Int)) ∧
         (RP ((b6 text).1) k_16' op_16' er_16' l_9' ∧ 0 ≤ (0 : Int) ∧ (0 : Int) ≤ 5) ∧
         (∀ (i_6' : Int) (k_17' : Int) (op_17' : Int) (er_17' : Int) (ea_17' : Int) (nl_6' : List NdV) (B_7' : List (Nat × Obj)), x8 (sE ((b6 text).1) (0 : Int).toNat (k_16'.toNat, op_16')) ((b6 text).1) c_4' l_9' k_16' op_16' er_16' ea_16' i_6' k_17' op_17' er_17' ea_17' nl_6' B_7' →
          ((0 ≤ k_17' ∧ k_17' < (((b6 text).1).length : Int)) ∧ (0 ≤ op_17' ∧ op_17' ≤ 64) ∧ ((b6 text).1).length ≤ 10000) ∧
          (∀ (k_18' : Int) (op_18' : Int) (er_18' : Int) (ea_18' : Int), aa5 ((b6 text).1) k_17' op_17' er_17' ea_17' ([59] : List UInt8) = (k_18', op_18', er_18', ea_18') →
           (((l_8'.length + 1) + (l_8'.length + 1) / 4 + 192) * 32 ≤ 281474976710656 ∧ l_8'.length + 1 ≤ 9223372036854775807) ∧
           Inv_1' (l_8' ++ [((((((b6 text).1).getD ((c_1_4' + 1)).toNat default).2.1), (((b6 text).1).getD ((c_1_4' + 1)).toNat default).2.2, i_6') : RdV)]) nl_6' k_18' op_18' er_18' ea_18' B_7' ∧ mu_1' (l_8' ++ [((((((b6 text).1).getD ((c_1_4' + 1)).toNat default).2.1), (((b6 text).1).getD ((c_1_4' + 1)).toNat default).2.2, i_6') : RdV)]) nl_6' k_18' op_18' er_18' ea_18' B_7' < mu_1' l_8' l_9' c_1_4' c_2_4' c_3_5' c_4_5' c_4'))))
      else
       J0 c_1_4' c_2_4' c_3_5' c_4_5' l_9' c_4' l_8')))
theorem asm  (text : List UInt8) (B : List (Nat × Obj)) (K : Value → Value → Int → Int → Int → (List (Nat × Obj)) → Prop) (h : ah1 text B K) :
  d7 Tryd.prog 10 [st text] [] [pool B] (fun o => (∃ (v : Value) (v_1' : Value) (v_2' : Int) (v_3' : Int) (v_4' : Int) (D : List (Nat × Obj)), K v v_1' v_2' v_3' v_4' D ∧ o = .ret (Value.tuple #[Value.agg [v, v_1', zI v_2'].toArray, zI v_3', zI v_4']) [pool D]) ∨ (False)) := by
 unfold ah1 at h
 refine c7 (n := 178) (L0 := [(0, st text)]) Tryd.func10 rfl rfl rfl rfl (fun w0 M Q hE => ?_)
 refine a7 (fun _ hK => ?_)
 refine a6 ?_
 refine WL.make (MV.alloc agm) rfl rfl rfl (fun b => ?_)
 refine WL.nilRow 69 4 ndC ?_
 refine WL.nilRow 43 3 rdC ?_
 refine wA ?_
 refine wA ?_
 refine WL.nil ?_
 refine kg (hK [(0, st text), (2, zP b)] _ ?_)
 refine a7 (fun _ hK_1' => ?_)
 refine a6 ?_
 refine wm ?_
 refine WL.callS atq rfl (anb text) rfl trivial rfl rfl (fun r H' hS => ?_) (fun c H' hS => ?_)
 ·obtain ⟨w, ho⟩ := hS
  cases ho
  refine wm ?_
  refine wv (OV.extract 0 rfl rfl) ?_
  refine wv (OV.extract 1 rfl rfl) ?_
  refine wv (OV.extract 2 rfl rfl) ?_
  refine wA ?_
  refine wA ?_
  refine wA ?_
  refine WL.nil ?_
  refine kg (hK_1' [(2, zP b), (5, w), (6, zI ((b6 text).2.1)), (7, zI ((b6 text).2.2))] _ ?_)
  refine a7 (fun _ hK_2' => ?_)
  refine a7 (fun _ hK_3' => ?_)
  refine a6 ?_
  refine wm ?_
  refine wv (OV.neq rfl rfl) ?_
  refine WL.nil ?_
  refine kg (hK_3' [(2, zP b), (5, w), (6, zI ((b6 text).2.1)), (7, zI ((b6 text).2.2)), (17, zB (!decide ((b6 text).2.1 = 0)))] _ ?_)
  refine a8 (b := !decide ((b6 text).2.1 = 0)) rfl (fun hb => ?_) (fun hb => ?_)
  ·replace h := e6 h hb
   refine a7 (fun _ hK_4' => ?_)
   refine a6 ?_
   refine wv (OV.build rfl (cs := [Value.slice none 0 0, Value.slice none 0 0, zI 0]) rfl) ?_
   refine wm ?_
   refine wm ?_
   refine WL.storeW (vs := [Value.slice none 0 0, Value.slice none 0 0, zI 0]) 3 rfl rfl rfl rfl rfl ac7 rfl rfl rfl ?_
   refine WL.nilRow 69 4 ndC ?_
   refine WL.nilRow 43 3 rdC ?_
   refine wA ?_
   refine wA ?_
   refine WL.nil ?_
   refine kg (hK_4' [(2, zP b), (3, zI ((b6 text).2.1)), (4, zI ((b6 text).2.2))] _ ?_)
   refine b8 ?_
   refine QX.pick (H' := [HA.row (Value.slice none 0 0) 69 4 ([] : List NdV).length (([] : List NdV).flatMap ndC), pool B, HA.row (Value.slice none 0 0) 43 3 ([] : List RdV).length (([] : List RdV).flatMap rdC), HA.row w 64 3 ((b6 text).1).length (((b6 text).1).flatMap d8), HA.row (Value.slice none 0 0) 43 3 ([] : List RdV).length (([] : List RdV).flatMap rdC), HA.row (Value.slice none 0 0) 69 4 ([] : List NdV).length (([] : List NdV).flatMap ndC), HA.blk b (.cells [Value.slice none 0 0, Value.slice none 0 0, zI 0].toArray 32 (0, 0))]) [1, 6, 0, 2, 3, 4, 5] rfl rfl ?_
   refine QX.absorbRow0 (fun R hl => ?_)
   refine QX.pick (H' := [HA.row (Value.slice none 0 0) 43 3 ([] : List RdV).length (([] : List RdV).flatMap rdC), pool (R ++ B), HA.row w 64 3 ((b6 text).1).length (((b6 text).1).flatMap d8), HA.row (Value.slice none 0 0) 43 3 ([] : List RdV).length (([] : List RdV).flatMap rdC), HA.row (Value.slice none 0 0) 69 4 ([] : List NdV).length (([] : List NdV).flatMap ndC), HA.blk b (.cells [Value.slice none 0 0, Value.slice none 0 0, zI 0].toArray 32 (0, 0))]) [1, 0, 2, 3, 4, 5] rfl rfl ?_
   refine QX.absorbRow0 (fun R_1' hl_1' => ?_)
   exact hE.ret [0] rfl rfl (.inl ⟨_, _, _, _, _, _, (h R hl R_1' hl_1'), rfl⟩) (d6.of3 rfl (RV.row rfl (At.own 4 rfl) v6) (RV.tmp rfl) (RV.tmp rfl))
  ·replace h := d9 h hb
   refine b5 ?_
   refine kg (hK_2' [(2, zP b), (5, w)] _ ?_)
   refine a7 (fun _ hK_5' => ?_)
   refine a6 ?_
   refine wm ?_
   refine WL.rowOne 0 rfl (fun hone0 => ?_)
   refine wv (OV.buildC (qs := [(0, [w])]) (cs := [w, zI 0, zI 0, zI 0, zI 0, Value.slice none 0 0, Value.slice none 0 0, zI 0]) rfl ⟨rfl, y7 hone0, trivial⟩ rfl) ?_
   refine WL.make (MV.box (cs := [w, zI 0, zI 0, zI 0, zI 0, Value.slice none 0 0, Value.slice none 0 0, zI 0]) rfl rfl) rfl rfl rfl (fun b_1' => ?_)
   refine WL.nilRow 69 4 ndC ?_
   refine WL.nilRow 43 3 rdC ?_
   refine wA ?_
   refine WL.nil ?_
   refine kg (hK_5' [(2, zP b), (8, zP b_1')] _ ?_)
   obtain ⟨J0, hJ, h⟩ := h
   refine l4 (X := Int × Int × Int × Int × Value × (List NdV) × (List (Nat × Obj)) × Value × (List RdV)) (fun σ => J0 σ.1 σ.2.1 σ.2.2.1 σ.2.2.2.1 σ.2.2.2.2.2.1 σ.2.2.2.2.2.2.1 σ.2.2.2.2.2.2.2.2) (fun σ => [(2, zP b), (8, zP b_1')]) (fun σ => [HA.blk b_1' (.cells [w, zI σ.1, zI σ.2.1, zI σ.2.2.1, zI σ.2.2.2.1, σ.2.2.2.2.1, σ.2.2.2.2.2.2.2.1, zI 0].toArray 62 (0, 0)), HA.row w 64 3 ((b6 text).1).length (((b6 text).1).flatMap d8), HA.row σ.2.2.2.2.1 69 4 σ.2.2.2.2.2.1.length (σ.2.2.2.2.2.1.flatMap ndC), pool σ.2.2.2.2.2.2.1, HA.row σ.2.2.2.2.2.2.2.1 43 3 σ.2.2.2.2.2.2.2.2.length (σ.2.2.2.2.2.2.2.2.flatMap rdC), HA.row (Value.slice none 0 0) 43 3 ([] : List RdV).length (([] : List RdV).flatMap rdC), HA.row (Value.slice none 0 0) 69 4 ([] : List NdV).length (([] : List NdV).flatMap ndC), HA.blk b (.cells [Value.slice none 0 0, Value.slice none 0 0, zI 0].toArray 32 (0, 0))]) ?_ (fun K0_48' hK_48' => ?_)
   ·rintro ⟨c_1_2', c_2_2', c_3_2', c_4_2', w_11', l_4', c_2', w_12', l_5'⟩ hj
    replace h := hJ c_1_2' c_2_2' c_3_2' c_4_2' l_4' c_2' l_5' hj
    show WC _ _ _ _ [(2, zP b), (8, zP b_1')] [HA.blk b_1' (.cells [w, zI c_1_2', zI c_2_2', zI c_3_2', zI c_4_2', w_11', w_12', zI 0].toArray 62 (0, 0)), HA.row w 64 3 ((b6 text).1).length (((b6 text).1).flatMap d8), HA.row w_11' 69 4 l_4'.length (l_4'.flatMap ndC), pool c_2', HA.row w_12' 43 3 l_5'.length (l_5'.flatMap rdC), HA.row (Value.slice none 0 0) 43 3 ([] : List RdV).length (([] : List RdV).flatMap rdC), HA.row (Value.slice none 0 0) 69 4 ([] : List NdV).length (([] : List NdV).flatMap ndC), HA.blk b (.cells [Value.slice none 0 0, Value.slice none 0 0, zI 0].toArray 32 (0, 0))]
    refine a7 (fun _ hK_49' => ?_)
    refine a6 ?_
    refine wm ?_
    refine wm ?_
    obtain ⟨o_45', h⟩ := h
    obtain ⟨o_46', h⟩ := h
    refine WL.callS acn rfl (o_45' b_1' w w_11' l_4' c_2_2' c_4_2' w_12' (0 : Int) c_2' o_46') rfl trivial rfl rfl (fun r H' hS => ?_) (fun c H' hS => ?_)
    ·obtain ⟨w_13', i_3', k_9', op_9', er_9', ea_9', nl_3', B_4', hc, ho⟩ := hS
     cases ho
     replace h := h i_3' k_9' op_9' er_9' ea_9' nl_3' B_4' hc
     refine wv (OV.nilCheck rfl) ?_
     refine wv (OV.fieldAddr0 rfl w9) ?_
     refine wv (OV.fieldAddr rfl af4) ?_
     refine WL.store (vs := [zI i_3']) (cs' := [w, zI k_9', zI op_9', zI er_9', zI ea_9', w_13', w_12', zI i_3']) 0 rfl rfl rfl rfl f9 (Nat.le_of_ble_eq_true rfl) rfl rfl rfl ?_
     refine WL.nil ?_
     refine kg (hK_49' [(2, zP b), (8, zP b_1')] _ ?_)
     obtain ⟨J0_1', hJ_1', h⟩ := h
     refine l4 (X := Int × Int) (fun σ => J0_1' σ.1 σ.2) (fun σ => [(2, zP b), (8, zP b_1')]) (fun σ => [HA.blk b_1' (.cells [w, zI k_9', zI op_9', zI σ.1, zI σ.2, w_13', w_12', zI i_3'].toArray 62 (0, 0)), HA.row w 64 3 ((b6 text).1).length (((b6 text).1).flatMap d8), HA.row w_13' 69 4 nl_3'.length (nl_3'.flatMap ndC), pool B_4', HA.row w_12' 43 3 l_5'.length (l_5'.flatMap rdC), HA.row (Value.slice none 0 0) 43 3 ([] : List RdV).length (([] : List RdV).flatMap rdC), HA.row (Value.slice none 0 0) 69 4 ([] : List NdV).length (([] : List NdV).flatMap ndC), HA.blk b (.cells [Value.slice none 0 0, Value.slice none 0 0, zI 0].toArray 32 (0, 0))]) ?_ (fun K0_52' hK_52' => ?_)
     ·rintro ⟨c_3_3', c_4_3'⟩ hj
      replace h := hJ_1' c_3_3' c_4_3' hj
      show WC _ _ _ _ [(2, zP b), (8, zP b_1')] [HA.blk b_1' (.cells [w, zI k_9', zI op_9', zI c_3_3', zI c_4_3', w_13', w_12', zI i_3'].toArray 62 (0, 0)), HA.row w 64 3 ((b6 text).1).length (((b6 text).1).flatMap d8), HA.row w_13' 69 4 nl_3'.length (nl_3'.flatMap ndC), pool B_4', HA.row w_12' 43 3 l_5'.length (l_5'.flatMap rdC), HA.row (Value.slice none 0 0) 43 3 ([] : List RdV).length (([] : List RdV).flatMap rdC), HA.row (Value.slice none 0 0) 69 4 ([] : List NdV).length (([] : List NdV).flatMap ndC), HA.blk b (.cells [Value.slice none 0 0, Value.slice none 0 0, zI 0].toArray 32 (0, 0))]
      refine a7 (fun _ hK_53' => ?_)
      refine a7 (fun _ hK_54' => ?_)
      refine a6 ?_
      refine wm ?_
      refine wv (OV.nilCheck rfl) ?_
      refine wv (OV.fieldAddr0 rfl p8) ?_
      refine wv (OV.load rfl (At.own 0 rfl) rfl b4) ?_
      refine wv (OV.neq rfl rfl) ?_
      refine WL.nil ?_
      refine kg (hK_54' [(2, zP b), (8, zP b_1'), (164, zB (!decide (c_3_3' = 0)))] _ ?_)
      refine a8 (b := !decide (c_3_3' = 0)) rfl (fun hb => ?_) (fun hb => ?_)
      ·replace h := e6 h hb
       refine a7 (fun _ hK_55' => ?_)
       refine afn 9 [0, 1, 2, 3, 4, 5, 6] [HA.blk b_1' (.cells [w, zI k_9', zI op_9', zI c_3_3', zI c_4_3', w_13', w_12', zI i_3'].toArray 62 (0, 0)), HA.row w 64 3 ((b6 text).1).length (((b6 text).1).flatMap d8), HA.row w_13' 69 4 nl_3'.length (nl_3'.flatMap ndC), pool B_4', HA.row w_12' 43 3 l_5'.length (l_5'.flatMap rdC), HA.row (Value.slice none 0 0) 43 3 ([] : List RdV).length (([] : List RdV).flatMap rdC), HA.row (Value.slice none 0 0) 69 4 ([] : List NdV).length (([] : List NdV).flatMap ndC)] rfl rfl f0 (by kernel_rfl) (fun T_13' hT_13' => ?_)
       refine TW.val (OV.build rfl (cs := [Value.slice none 0 0, Value.slice none 0 0, zI 0]) rfl) rfl rfl rfl ?_
       refine TW.val (OV.move rfl) rfl rfl rfl ?_
       refine TW.val (OV.nilCheck rfl) rfl rfl rfl ?_
       refine TW.val (OV.fieldAddr0 rfl p8) rfl rfl rfl ?_
       refine TW.val (OV.load rfl (At.own 0 rfl) rfl b4) rfl rfl rfl ?_
       refine TW.val (OV.move rfl) rfl rfl rfl ?_
       refine TW.val (OV.nilCheck rfl) rfl rfl rfl ?_
       refine TW.val (OV.fieldAddr0 rfl af9) rfl rfl rfl ?_
       refine TW.val (OV.load rfl (At.own 0 rfl) rfl b4) rfl rfl rfl ?_
       refine TW.nil (hT_13' _ ?_)
       refine WLK.op [0, 1, 2, 3, 4, 5, 6] rfl rfl (OpK.storeW (vs := [Value.slice none 0 0, Value.slice none 0 0, zI 0]) 7 rfl rfl rfl rfl rfl ac7 rfl rfl) rfl ?_
       refine WLK.op [0, 1, 2, 3, 4, 5, 6] rfl rfl (OpK.val (OV.assign rfl) rfl rfl) rfl ?_
       refine WLK.op [0, 1, 2, 3, 4, 5, 6] rfl rfl (OpK.val (OV.assign rfl) rfl rfl) rfl ?_
       refine WLK.nil ?_
       refine kg (hK_55' [(2, zP b), (3, zI c_3_3'), (4, zI c_4_3')] _ ?_)
       refine b8 ?_
       exact hE.ret [3] rfl rfl (.inl ⟨_, _, _, _, _, _, h, rfl⟩) (d6.of3 rfl (RV.row rfl (At.own 7 rfl) v6) (RV.tmp rfl) (RV.tmp rfl))
      ·replace h := d9 h hb
       refine b5 ?_
       refine kg (hK_53' [(2, zP b), (8, zP b_1')] _ ?_)
       refine a7 (fun _ hK_56' => ?_)
       refine a6 ?_
       refine wm ?_
       refine wv (OV.nilCheck rfl) ?_
       refine wv (OV.fieldAddr0 rfl w9) ?_
       refine wv (OV.loadM (vs := [w_13', w_12', zI i_3']) rfl (At.own 0 rfl) rfl v6) ?_
       refine WL.rowOne 2 rfl (fun hone0 => ?_)
       refine WL.rowOne 4 rfl (fun hone1 => ?_)
       refine WL.storeW (vs := [w_13', w_12', zI i_3']) 7 rfl rfl rfl rfl rfl ac7 rfl (f7 hone0 (f7 hone1 (f7 rfl y5))) rfl ?_
       refine wA ?_
       refine wA ?_
       refine WL.nil ?_
       refine kg (hK_56' [(2, zP b), (3, zI 0), (4, zI 0)] _ ?_)
       refine b8 ?_
       refine QX.pick (H' := [HA.row w_13' 69 4 nl_3'.length (nl_3'.flatMap ndC), pool B_4', HA.blk b_1' (.cells [w, zI k_9', zI op_9', zI c_3_3', zI c_4_3', w_13', w_12', zI i_3'].toArray 62 (0, 0)), HA.row w 64 3 ((b6 text).1).length (((b6 text).1).flatMap d8), HA.row w_12' 43 3 l_5'.length (l_5'.flatMap rdC), HA.row (Value.slice none 0 0) 43 3 ([] : List RdV).length (([] : List RdV).flatMap rdC), HA.row (Value.slice none 0 0) 69 4 ([] : List NdV).length (([] : List NdV).flatMap ndC), HA.blk b (.cells [w_13', w_12', zI i_3'].toArray 32 (0, 0))]) [2, 3, 0, 1, 4, 5, 6, 7] rfl rfl ?_
       refine QX.absorbRow0 (fun R_2' hl_2' => ?_)
       refine QX.pick (H' := [HA.row w_12' 43 3 l_5'.length (l_5'.flatMap rdC), pool (R_2' ++ B_4'), HA.blk b_1' (.cells [w, zI k_9', zI op_9', zI c_3_3', zI c_4_3', w_13', w_12', zI i_3'].toArray 62 (0, 0)), HA.row w 64 3 ((b6 text).1).length (((b6 text).1).flatMap d8), HA.row (Value.slice none 0 0) 43 3 ([] : List RdV).length (([] : List RdV).flatMap rdC), HA.row (Value.slice none 0 0) 69 4 ([] : List NdV).length (([] : List NdV).flatMap ndC), HA.blk b (.cells [w_13', w_12', zI i_3'].toArray 32 (0, 0))]) [3, 0, 1, 2, 4, 5, 6] rfl rfl ?_
       refine QX.absorbRow0 (fun R_3' hl_3' => ?_)
       exact hE.ret [0] rfl rfl (.inl ⟨_, _, _, _, _, _, (h w_13' R_2' hl_2' w_12' R_3' hl_3'), rfl⟩) (d6.of3 rfl (RV.row rfl (At.own 5 rfl) v6) (RV.tmp rfl) (RV.tmp rfl))
     ·skip
      refine a7 (fun _ hK_57' => ?_)
      refine u4 [] f0 (by kernel_rfl) rfl (fun T_14' hT_14' => ?_)
      refine fv (fun _ => OV.move rfl) ?_
      refine fv (fun _ => OV.nilCheck rfl) ?_
      refine fv (fun _ => OV.fieldAddr0 rfl p8) ?_
      refine fv (fun _ => OV.load rfl (At.own 0 rfl) rfl b4) ?_
      refine fv (fun _ => OV.eql rfl rfl) ?_
      refine fv (fun _ => OV.move rfl) ?_
      obtain ⟨o_51', h⟩ := h
      refine FL.cut 13 rfl (fun _ => [(2, zP b), (8, zP b_1'), (157, zB ((decide (er_9' = 0)) && (!decide ((((b6 text).1).getD (k_9').toNat default).1 = 0))))]) ?_ (fun K0_58' hK_58' => ?_)
      rotate_left
      ·refine FL.split (decide (er_9' = 0)) (fun hb => ?_) (fun hb => ?_)
       ·have o_50' := o_51' hb
        refine FL.set 144 (fun _ => rfl) (congrArg zB hb) ?_
        refine fv (fun _ => OV.move rfl) ?_
        refine fv (fun _ => OV.nilCheck rfl) ?_
        refine fv (fun _ => OV.fieldAddr0 rfl l3) ?_
        refine fv (fun _ => OV.load rfl (At.own 0 rfl) rfl p6) ?_
        refine fv (fun _ => OV.move rfl) ?_
        refine fv (fun _ => OV.nilCheck rfl) ?_
        refine fv (fun _ => OV.fieldAddr0 rfl e7) ?_
        refine fv (fun _ => OV.load rfl (At.own 0 rfl) rfl b4) ?_
        refine fv (fun _ => OV.indexRow 1 rfl rfl rfl q8 o_50') ?_
        refine fv (fun _ => OV.fieldAddr rfl m0) ?_
        refine fv (fun _ => OV.loadEF (f := d8) (o := 0) 1 rfl rfl p7 (by omega) rfl b4) ?_
        refine fv (fun _ => OV.neq rfl rfl) ?_
        refine fv (fun _ => OV.pickT rfl rfl) ?_
        refine FL.set 157 (fun _ => rfl) (bT (v := !decide ((((b6 text).1).getD (k_9').toNat default).1 = 0)) hb) ?_
        exact FL.weak (L' := fun _ => [(2, zP b), (8, zP b_1'), (157, zB ((decide (er_9' = 0)) && (!decide ((((b6 text).1).getD (k_9').toNat default).1 = 0))))]) (fun _ => ⟨rfl, rfl, rfl, trivial⟩) (FL.nil hK_58')
       ·refine FL.set 144 (fun _ => rfl) (congrArg zB hb) ?_
        refine FL.skip rfl (fun _ => rfl) rfl rfl ?_
        refine FL.skip rfl (fun _ => rfl) rfl rfl ?_
        refine FL.skip rfl (fun _ => rfl) rfl rfl ?_
        refine FL.skip rfl (fun _ => rfl) rfl rfl ?_
        refine FL.skip rfl (fun _ => rfl) rfl rfl ?_
        refine FL.skip rfl (fun _ => rfl) rfl rfl ?_
        refine FL.skip rfl (fun _ => rfl) rfl rfl ?_
        refine FL.skip rfl (fun _ => rfl) rfl rfl ?_
        refine FL.skip rfl (fun _ => rfl) rfl rfl ?_
        refine FL.skip rfl (fun _ => rfl) rfl rfl ?_
        refine FL.skip rfl (fun _ => rfl) rfl rfl ?_
        refine FL.skip rfl (fun _ => rfl) rfl rfl ?_
        refine fv (fun _ => OV.pickF rfl rfl) ?_
        refine FL.set 157 (fun _ => rfl) (bF (v := !decide ((((b6 text).1).getD (k_9').toNat default).1 = 0)) hb) ?_
        exact FL.weak (L' := fun _ => [(2, zP b), (8, zP b_1'), (157, zB ((decide (er_9' = 0)) && (!decide ((((b6 text).1).getD (k_9').toNat default).1 = 0))))]) (fun _ => ⟨rfl, rfl, rfl, trivial⟩) (FL.nil hK_58')
      refine FL.weak (L' := fun _ => [(2, zP b), (8, zP b_1'), (157, zB ((decide (er_9' = 0)) && (!decide ((((b6 text).1).getD (k_9').toNat default).1 = 0))))]) (fun _ => ⟨rfl, rfl, rfl, trivial⟩) (FL.nil (hT_14' (fun _ => [(2, zP b), (8, zP b_1'), (157, zB ((decide (er_9' = 0)) && (!decide ((((b6 text).1).getD (k_9').toNat default).1 = 0))))]) (fun _ => ?_)))
      refine kg (hK_57' [(2, zP b), (8, zP b_1'), (157, zB ((decide (er_9' = 0)) && (!decide ((((b6 text).1).getD (k_9').toNat default).1 = 0))))] _ ?_)
      refine a8 (b := (decide (er_9' = 0)) && (!decide ((((b6 text).1).getD (k_9').toNat default).1 = 0))) rfl (fun hb => ?_) (fun hb => ?_)
      ·replace h := e6 h hb
       refine a6 ?_
       refine wm ?_
       obtain ⟨o_52', h⟩ := h
       refine WL.call acp rfl (abv b_1' w ((b6 text).1) w_13' nl_3' k_9' op_9' er_9' ea_9' w_12' i_3' B_4' (60 : Int) o_52') rfl trivial rfl rfl ?_
       refine WL.nil ?_
       exact kh (hK_52' (aca er_9' (60 : Int), acd ((b6 text).1) k_9' er_9' ea_9') h) [0, 1, 2, 3, 4, 5, 6, 7]
      ·replace h := d9 h hb
       refine b5 ?_
       exact kh (hK_52' (er_9', ea_9') h) [0, 1, 2, 3, 4, 5, 6, 7]
    ·obtain ⟨w_13', i_3', k_9', op_9', er_9', ea_9', nl_3', B_4', hc, ho⟩ := hS
     cases ho
   ·skip
    refine b7 ?_
    obtain ⟨Inv_1', mu_1', h0_1', hr_1'⟩ := h
    refine n6 (S := Value × (List RdV) × Value × (List NdV) × Int × Int × Int × Int × (List (Nat × Obj))) (fun σ => Inv_1' σ.2.1 σ.2.2.2.1 σ.2.2.2.2.1 σ.2.2.2.2.2.1 σ.2.2.2.2.2.2.1 σ.2.2.2.2.2.2.2.1 σ.2.2.2.2.2.2.2.2) (fun σ => mu_1' σ.2.1 σ.2.2.2.1 σ.2.2.2.2.1 σ.2.2.2.2.2.1 σ.2.2.2.2.2.2.1 σ.2.2.2.2.2.2.2.1 σ.2.2.2.2.2.2.2.2) (fun σ => [(2, zP b), (8, zP b_1')]) (fun σ => [HA.row σ.1 43 3 σ.2.1.length (σ.2.1.flatMap rdC), HA.row σ.2.2.1 69 4 σ.2.2.2.1.length (σ.2.2.2.1.flatMap ndC), HA.blk b_1' (.cells [w, zI σ.2.2.2.2.1, zI σ.2.2.2.2.2.1, zI σ.2.2.2.2.2.2.1, zI σ.2.2.2.2.2.2.2.1, σ.2.2.1, σ.1, zI 0].toArray 62 (0, 0)), HA.row w 64 3 ((b6 text).1).length (((b6 text).1).flatMap d8), HA.row (Value.slice none 0 0) 43 3 ([] : List RdV).length (([] : List RdV).flatMap rdC), HA.row (Value.slice none 0 0) 69 4 ([] : List NdV).length (([] : List NdV).flatMap ndC), HA.blk b (.cells [Value.slice none 0 0, Value.slice none 0 0, zI 0].toArray 32 (0, 0)), pool σ.2.2.2.2.2.2.2.2]) (Value.slice none 0 0, [], Value.slice none 0 0, [], 0, 0, 0, 0, B) h0_1' ⟨rfl, rfl, trivial⟩ rfl ?_
    rintro ⟨w_20', l_8', w_21', l_9', c_1_4', c_2_4', c_3_5', c_4_5', c_4'⟩ hi K0_86' hK_86'
    have h := hr_1' l_8' l_9' c_1_4' c_2_4' c_3_5' c_4_5' c_4' hi
    show WC _ _ _ _ [(2, zP b), (8, zP b_1')] [HA.row w_20' 43 3 l_8'.length (l_8'.flatMap rdC), HA.row w_21' 69 4 l_9'.length (l_9'.flatMap ndC), HA.blk b_1' (.cells [w, zI c_1_4', zI c_2_4', zI c_3_5', zI c_4_5', w_21', w_20', zI 0].toArray 62 (0, 0)), HA.row w 64 3 ((b6 text).1).length (((b6 text).1).flatMap d8), HA.row (Value.slice none 0 0) 43 3 ([] : List RdV).length (([] : List RdV).flatMap rdC), HA.row (Value.slice none 0 0) 69 4 ([] : List NdV).length (([] : List NdV).flatMap ndC), HA.blk b (.cells [Value.slice none 0 0, Value.slice none 0 0, zI 0].toArray 32 (0, 0)), pool c_4']
    refine a7 (fun _ hK_87' => ?_)
    refine a7 (fun _ hK_88' => ?_)
    refine u4 [] f0 (by kernel_rfl) rfl (fun T_23' hT_23' => ?_)
    refine fv (fun _ => OV.move rfl) ?_
    refine fv (fun _ => OV.nilCheck rfl) ?_
    refine fv (fun _ => OV.fieldAddr0 rfl p8) ?_
    refine fv (fun _ => OV.load rfl (At.own 2 rfl) rfl b4) ?_
    refine fv (fun _ => OV.eql rfl rfl) ?_
    refine fv (fun _ => OV.move rfl) ?_
    obtain ⟨o_83', h⟩ := h
    refine FL.cut 13 rfl (fun _ => [(2, zP b), (8, zP b_1'), (42, zB ((decide (c_3_5' = 0)) && (decide ((((b6 text).1).getD (c_1_4').toNat default).1 = 1))))]) ?_ (fun K0_89' hK_89' => ?_)
    rotate_left
    ·refine FL.split (decide (c_3_5' = 0)) (fun hb => ?_) (fun hb => ?_)
     ·have o_82' := o_83' hb
      refine FL.set 29 (fun _ => rfl) (congrArg zB hb) ?_
      refine fv (fun _ => OV.move rfl) ?_
      refine fv (fun _ => OV.nilCheck rfl) ?_
      refine fv (fun _ => OV.fieldAddr0 rfl l3) ?_
      refine fv (fun _ => OV.load rfl (At.own 2 rfl) rfl p6) ?_
      refine fv (fun _ => OV.move rfl) ?_
      refine fv (fun _ => OV.nilCheck rfl) ?_
      refine fv (fun _ => OV.fieldAddr0 rfl e7) ?_
      refine fv (fun _ => OV.load rfl (At.own 2 rfl) rfl b4) ?_
      refine fv (fun _ => OV.indexRow 3 rfl rfl rfl q8 o_82') ?_
      refine fv (fun _ => OV.fieldAddr rfl m0) ?_
      refine fv (fun _ => OV.loadEF (f := d8) (o := 0) 3 rfl rfl p7 (by omega) rfl b4) ?_
      refine fv (fun _ => OV.eql rfl rfl) ?_
      refine fv (fun _ => OV.pickT rfl rfl) ?_
      refine FL.set 42 (fun _ => rfl) (bT (v := decide ((((b6 text).1).getD (c_1_4').toNat default).1 = 1)) hb) ?_
      exact FL.weak (L' := fun _ => [(2, zP b), (8, zP b_1'), (42, zB ((decide (c_3_5' = 0)) && (decide ((((b6 text).1).getD (c_1_4').toNat default).1 = 1))))]) (fun _ => ⟨rfl, rfl, rfl, trivial⟩) (FL.nil hK_89')
     ·refine FL.set 29 (fun _ => rfl) (congrArg zB hb) ?_
      refine FL.skip rfl (fun _ => rfl) rfl rfl ?_
      refine FL.skip rfl (fun _ => rfl) rfl rfl ?_
      refine FL.skip rfl (fun _ => rfl) rfl rfl ?_
      refine FL.skip rfl (fun _ => rfl) rfl rfl ?_
      refine FL.skip rfl (fun _ => rfl) rfl rfl ?_
      refine FL.skip rfl (fun _ => rfl) rfl rfl ?_
      refine FL.skip rfl (fun _ => rfl) rfl rfl ?_
      refine FL.skip rfl (fun _ => rfl) rfl rfl ?_
      refine FL.skip rfl (fun _ => rfl) rfl rfl ?_
      refine FL.skip rfl (fun _ => rfl) rfl rfl ?_
      refine FL.skip rfl (fun _ => rfl) rfl rfl ?_
      refine FL.skip rfl (fun _ => rfl) rfl rfl ?_
      refine fv (fun _ => OV.pickF rfl rfl) ?_
      refine FL.set 42 (fun _ => rfl) (bF (v := decide ((((b6 text).1).getD (c_1_4').toNat default).1 = 1)) hb) ?_
      exact FL.weak (L' := fun _ => [(2, zP b), (8, zP b_1'), (42, zB ((decide (c_3_5' = 0)) && (decide ((((b6 text).1).getD (c_1_4').toNat default).1 = 1))))]) (fun _ => ⟨rfl, rfl, rfl, trivial⟩) (FL.nil hK_89')
    refine fv (fun _ => OV.move rfl) ?_
    obtain ⟨o_85', h⟩ := h
    refine FL.cut 13 rfl (fun _ => [(2, zP b), (8, zP b_1'), (56, zB (((decide (c_3_5' = 0)) && (decide ((((b6 text).1).getD (c_1_4').toNat default).1 = 1))) && (decide ((((b6 text).1).getD (c_1_4').toNat default).2.2 = ([108, 101, 116] : List UInt8)))))]) ?_ (fun K0_90' hK_90' => ?_)
    rotate_left
    ·refine FL.split ((decide (c_3_5' = 0)) && (decide ((((b6 text).1).getD (c_1_4').toNat default).1 = 1))) (fun hb => ?_) (fun hb => ?_)
     ·have o_84' := o_85' hb
      refine FL.set 43 (fun _ => rfl) (congrArg zB hb) ?_
      refine fv (fun _ => OV.move rfl) ?_
      refine fv (fun _ => OV.nilCheck rfl) ?_
      refine fv (fun _ => OV.fieldAddr0 rfl l3) ?_
      refine fv (fun _ => OV.load rfl (At.own 2 rfl) rfl p6) ?_
      refine fv (fun _ => OV.move rfl) ?_
      refine fv (fun _ => OV.nilCheck rfl) ?_
      refine fv (fun _ => OV.fieldAddr0 rfl e7) ?_
      refine fv (fun _ => OV.load rfl (At.own 2 rfl) rfl b4) ?_
      refine fv (fun _ => OV.indexRow 3 rfl rfl rfl q8 o_84') ?_
      refine fv (fun _ => OV.fieldAddr rfl l0) ?_
      refine fv (fun _ => OV.loadEF (f := d8) (o := 2) 3 rfl rfl p7 (by omega) rfl c6) ?_
      refine fv (fun _ => OV.eqlS rfl rfl) ?_
      refine fv (fun _ => OV.pickT rfl rfl) ?_
      refine FL.set 56 (fun _ => rfl) (bT (v := decide ((((b6 text).1).getD (c_1_4').toNat default).2.2 = ([108, 101, 116] : List UInt8))) hb) ?_
      exact FL.weak (L' := fun _ => [(2, zP b), (8, zP b_1'), (56, zB (((decide (c_3_5' = 0)) && (decide ((((b6 text).1).getD (c_1_4').toNat default).1 = 1))) && (decide ((((b6 text).1).getD (c_1_4').toNat default).2.2 = ([108, 101, 116] : List UInt8)))))]) (fun _ => ⟨rfl, rfl, rfl, trivial⟩) (FL.nil hK_90')
     ·refine FL.set 43 (fun _ => rfl) (congrArg zB hb) ?_
      refine FL.skip rfl (fun _ => rfl) rfl rfl ?_
      refine FL.skip rfl (fun _ => rfl) rfl rfl ?_
      refine FL.skip rfl (fun _ => rfl) rfl rfl ?_
      refine FL.skip rfl (fun _ => rfl) rfl rfl ?_
      refine FL.skip rfl (fun _ => rfl) rfl rfl ?_
      refine FL.skip rfl (fun _ => rfl) rfl rfl ?_
      refine FL.skip rfl (fun _ => rfl) rfl rfl ?_
      refine FL.skip rfl (fun _ => rfl) rfl rfl ?_
      refine FL.skip rfl (fun _ => rfl) rfl rfl ?_
      refine FL.skip rfl (fun _ => rfl) rfl rfl ?_
      refine FL.skip rfl (fun _ => rfl) rfl rfl ?_
      refine FL.skip rfl (fun _ => rfl) rfl rfl ?_
      refine fv (fun _ => OV.pickF rfl rfl) ?_
      refine FL.set 56 (fun _ => rfl) (bF (v := decide ((((b6 text).1).getD (c_1_4').toNat default).2.2 = ([108, 101, 116] : List UInt8))) hb) ?_
      exact FL.weak (L' := fun _ => [(2, zP b), (8, zP b_1'), (56, zB (((decide (c_3_5' = 0)) && (decide ((((b6 text).1).getD (c_1_4').toNat default).1 = 1))) && (decide ((((b6 text).1).getD (c_1_4').toNat default).2.2 = ([108, 101, 116] : List UInt8)))))]) (fun _ => ⟨rfl, rfl, rfl, trivial⟩) (FL.nil hK_90')
    refine FL.weak (L' := fun _ => [(2, zP b), (8, zP b_1'), (56, zB (((decide (c_3_5' = 0)) && (decide ((((b6 text).1).getD (c_1_4').toNat default).1 = 1))) && (decide ((((b6 text).1).getD (c_1_4').toNat default).2.2 = ([108, 101, 116] : List UInt8)))))]) (fun _ => ⟨rfl, rfl, rfl, trivial⟩) (FL.nil (hT_23' (fun _ => [(2, zP b), (8, zP b_1'), (56, zB (((decide (c_3_5' = 0)) && (decide ((((b6 text).1).getD (c_1_4').toNat default).1 = 1))) && (decide ((((b6 text).1).getD (c_1_4').toNat default).2.2 = ([108, 101, 116] : List UInt8)))))]) (fun _ => ?_)))
    refine kg (hK_88' [(2, zP b), (8, zP b_1'), (56, zB (((decide (c_3_5' = 0)) && (decide ((((b6 text).1).getD (c_1_4').toNat default).1 = 1))) && (decide ((((b6 text).1).getD (c_1_4').toNat default).2.2 = ([108, 101, 116] : List UInt8)))))] _ ?_)
    refine a8 (b := ((decide (c_3_5' = 0)) && (decide ((((b6 text).1).getD (c_1_4').toNat default).1 = 1))) && (decide ((((b6 text).1).getD (c_1_4').toNat default).2.2 = ([108, 101, 116] : List UInt8)))) rfl (fun hb => ?_) (fun hb => ?_)
    ·replace h := e6 h hb
     refine b5 ?_
     refine kg (hK_87' [(2, zP b), (8, zP b_1')] _ ?_)
     refine b7 ?_
     refine a7 (fun _ hK_91' => ?_)
     refine a6 ?_
     refine wm ?_
     refine wv (OV.nilCheck rfl) ?_
     refine wv (OV.fieldAddr0 rfl e7) ?_
     refine wv (OV.load rfl (At.own 2 rfl) rfl b4) ?_
     obtain ⟨o_86', h⟩ := h
     refine wv (OV.add rfl rfl o_86') ?_
     refine wv (OV.nilCheck rfl) ?_
     refine wv (OV.fieldAddr0 rfl e7) ?_
     refine WL.store (vs := [zI (c_1_4' + 1)]) (cs' := [w, zI (c_1_4' + 1), zI c_2_4', zI c_3_5', zI c_4_5', w_21', w_20', zI 0]) 2 rfl rfl rfl rfl f9 (Nat.le_of_ble_eq_true rfl) rfl rfl rfl ?_
     refine WL.nil ?_
     refine kg (hK_91' [(2, zP b), (8, zP b_1')] _ ?_)
     refine a7 (fun _ hK_92' => ?_)
     refine k8 24 [(23, .cells [zI 0, st [], zI 0].toArray 43 (0, 0))] f0 (by kernel_rfl) rfl (fun T_24' hT_24' => ?_)
     refine fv (fun _ => OV.move rfl) ?_
     refine fv (fun _ => OV.nilCheck rfl) ?_
     refine fv (fun _ => OV.fieldAddr0 rfl l3) ?_
     refine fv (fun _ => OV.load rfl (At.own 2 rfl) rfl p6) ?_
     refine fv (fun _ => OV.move rfl) ?_
     refine fv (fun _ => OV.nilCheck rfl) ?_
     refine fv (fun _ => OV.fieldAddr0 rfl e7) ?_
     refine fv (fun _ => OV.load rfl (At.own 2 rfl) rfl b4) ?_
     obtain ⟨o_87', h⟩ := h
     refine fv (fun _ => OV.indexRow 3 rfl rfl rfl q8 o_87') ?_
     refine fv (fun _ => OV.fieldAddr rfl s5) ?_
     refine fv (fun _ => OV.loadEF (f := d8) (o := 1) 3 rfl rfl p7 (by omega) rfl b4) ?_
     refine fv (fun _ => OV.move rfl) ?_
     refine fv (fun _ => OV.nilCheck rfl) ?_
     refine fv (fun _ => OV.fieldAddr0 rfl l3) ?_
     refine fv (fun _ => OV.load rfl (At.own 2 rfl) rfl p6) ?_
     refine fv (fun _ => OV.move rfl) ?_
     refine fv (fun _ => OV.nilCheck rfl) ?_
     refine fv (fun _ => OV.fieldAddr0 rfl e7) ?_
     refine fv (fun _ => OV.load rfl (At.own 2 rfl) rfl b4) ?_
     obtain ⟨o_88', h⟩ := h
     refine fv (fun _ => OV.indexRow 3 rfl rfl rfl q8 o_88') ?_
     refine fv (fun _ => OV.fieldAddr rfl l0) ?_
     refine fv (fun _ => OV.loadEF (f := d8) (o := 2) 3 rfl rfl p7 (by omega) rfl c6) ?_
     refine fv (fun _ => OV.build rfl (cs := [zI ((((b6 text).1).getD ((c_1_4' + 1)).toNat default).2.1), st ((((b6 text).1).getD ((c_1_4' + 1)).toNat default).2.2), zI 0]) rfl) ?_
     refine FL.make (fun _ => MV.alloc aqu) rfl (fun _ => rfl) rfl rfl ?_
     refine FL.weak (L' := fun γ => [(2, zP b), (8, zP b_1'), (9, Value.pointer (some ⟨(γ 23), 0, none⟩)), (86, Value.agg [zI ((((b6 text).1).getD ((c_1_4' + 1)).toNat default).2.1), st ((((b6 text).1).getD ((c_1_4' + 1)).toNat default).2.2), zI 0].toArray)]) (fun γ => ⟨rfl, rfl, rfl, rfl, trivial⟩) (FL.nil (hT_24' (fun γ => [(2, zP b), (8, zP b_1'), (9, Value.pointer (some ⟨(γ 23), 0, none⟩)), (86, Value.agg [zI ((((b6 text).1).getD ((c_1_4' + 1)).toNat default).2.1), st ((((b6 text).1).getD ((c_1_4' + 1)).toNat default).2.2), zI 0].toArray)]) (fun γ => ?_)))
     show WL _ _ _ _ [(2, zP b), (8, zP b_1'), (9, Value.pointer (some ⟨(γ 23), 0, none⟩)), (86, Value.agg [zI ((((b6 text).1).getD ((c_1_4' + 1)).toNat default).2.1), st ((((b6 text).1).getD ((c_1_4' + 1)).toNat default).2.2), zI 0].toArray)] [HA.blk (γ 23) (.cells [zI 0, st [], zI 0].toArray 43 (0, 0)), HA.row w_20' 43 3 l_8'.length (l_8'.flatMap rdC), HA.row w_21' 69 4 l_9'.length (l_9'.flatMap ndC), HA.blk b_1' (.cells [w, zI (c_1_4' + 1), zI c_2_4', zI c_3_5', zI c_4_5', w_21', w_20', zI 0].toArray 62 (0, 0)), HA.row w 64 3 ((b6 text).1).length (((b6 text).1).flatMap d8), HA.row (Value.slice none 0 0) 43 3 ([] : List RdV).length (([] : List RdV).flatMap rdC), HA.row (Value.slice none 0 0) 69 4 ([] : List NdV).length (([] : List NdV).flatMap ndC), HA.blk b (.cells [Value.slice none 0 0, Value.slice none 0 0, zI 0].toArray 32 (0, 0)), pool c_4'] _
     generalize γ 23 = b_12'
     refine WL.storeW (vs := [zI ((((b6 text).1).getD ((c_1_4' + 1)).toNat default).2.1), st ((((b6 text).1).getD ((c_1_4' + 1)).toNat default).2.2), zI 0]) 0 rfl rfl rfl rfl rfl aqp rfl rfl rfl ?_
     refine WL.nil ?_
     refine kg (hK_92' [(2, zP b), (8, zP b_1'), (9, zP b_12')] _ ?_)
     refine a7 (fun _ hK_93' => ?_)
     refine a7 (fun _ hK_94' => ?_)
     refine u4 [] f0 (by kernel_rfl) rfl (fun T_25' hT_25' => ?_)
     refine fv (fun _ => OV.move rfl) ?_
     refine fv (fun _ => OV.nilCheck rfl) ?_
     refine fv (fun _ => OV.fieldAddr0 rfl l3) ?_
     refine fv (fun _ => OV.load rfl (At.own 3 rfl) rfl p6) ?_
     refine fv (fun _ => OV.move rfl) ?_
     refine fv (fun _ => OV.nilCheck rfl) ?_
     refine fv (fun _ => OV.fieldAddr0 rfl e7) ?_
     refine fv (fun _ => OV.load rfl (At.own 3 rfl) rfl b4) ?_
     obtain ⟨o_89', h⟩ := h
     refine fv (fun _ => OV.indexRow 4 rfl rfl rfl q8 o_89') ?_
     refine fv (fun _ => OV.fieldAddr rfl m0) ?_
     refine fv (fun _ => OV.loadEF (f := d8) (o := 0) 4 rfl rfl p7 (by omega) rfl b4) ?_
     refine fv (fun _ => OV.neq rfl rfl) ?_
     refine fv (fun _ => OV.move rfl) ?_
     refine FL.cut 5 rfl (fun _ => [(2, zP b), (8, zP b_1'), (9, zP b_12'), (104, zB ((!decide ((((b6 text).1).getD ((c_1_4' + 1)).toNat default).1 = 1)) || (!decide (d4 ((((b6 text).1).getD ((c_1_4' + 1)).toNat default).2.2) = 0))))]) ?_ (fun K0_95' hK_95' => ?_)
     rotate_left
     ·refine FL.split (!decide ((((b6 text).1).getD ((c_1_4' + 1)).toNat default).1 = 1)) (fun hb => ?_) (fun hb => ?_)
      ·refine FL.set 99 (fun _ => rfl) (congrArg zB hb) ?_
       refine FL.skip rfl (fun _ => rfl) rfl rfl ?_
       refine FL.skip rfl (fun _ => rfl) rfl rfl ?_
       refine FL.skip rfl (fun _ => rfl) rfl rfl ?_
       refine FL.skip rfl (fun _ => rfl) rfl rfl ?_
       refine fv (fun _ => OV.pickT rfl rfl) ?_
       refine FL.set 104 (fun _ => rfl) (oT (v := !decide (d4 ((((b6 text).1).getD ((c_1_4' + 1)).toNat default).2.2) = 0)) hb) ?_
       exact FL.weak (L' := fun _ => [(2, zP b), (8, zP b_1'), (9, zP b_12'), (104, zB ((!decide ((((b6 text).1).getD ((c_1_4' + 1)).toNat default).1 = 1)) || (!decide (d4 ((((b6 text).1).getD ((c_1_4' + 1)).toNat default).2.2) = 0))))]) (fun _ => ⟨rfl, rfl, rfl, rfl, trivial⟩) (FL.nil hK_95')
      ·refine FL.set 99 (fun _ => rfl) (congrArg zB hb) ?_
       refine fv (fun _ => OV.fieldAddr0 rfl afz) ?_
       refine fv (fun _ => OV.load rfl (At.own 0 rfl) rfl c6) ?_
       refine FL.call amc (fun _ => rfl) (aij ((((b6 text).1).getD ((c_1_4' + 1)).toNat default).2.2)) trivial rfl (fun _ => rfl) rfl ?_
       refine fv (fun _ => OV.neq rfl rfl) ?_
       refine fv (fun _ => OV.pickF rfl rfl) ?_
       refine FL.set 104 (fun _ => rfl) (oF (v := !decide (d4 ((((b6 text).1).getD ((c_1_4' + 1)).toNat default).2.2) = 0)) hb) ?_
       exact FL.weak (L' := fun _ => [(2, zP b), (8, zP b_1'), (9, zP b_12'), (104, zB ((!decide ((((b6 text).1).getD ((c_1_4' + 1)).toNat default).1 = 1)) || (!decide (d4 ((((b6 text).1).getD ((c_1_4' + 1)).toNat default).2.2) = 0))))]) (fun _ => ⟨rfl, rfl, rfl, rfl, trivial⟩) (FL.nil hK_95')
     refine FL.weak (L' := fun _ => [(2, zP b), (8, zP b_1'), (9, zP b_12'), (104, zB ((!decide ((((b6 text).1).getD ((c_1_4' + 1)).toNat default).1 = 1)) || (!decide (d4 ((((b6 text).1).getD ((c_1_4' + 1)).toNat default).2.2) = 0))))]) (fun _ => ⟨rfl, rfl, rfl, rfl, trivial⟩) (FL.nil (hT_25' (fun _ => [(2, zP b), (8, zP b_1'), (9, zP b_12'), (104, zB ((!decide ((((b6 text).1).getD ((c_1_4' + 1)).toNat default).1 = 1)) || (!decide (d4 ((((b6 text).1).getD ((c_1_4' + 1)).toNat default).2.2) = 0))))]) (fun _ => ?_)))
     refine kg (hK_94' [(2, zP b), (8, zP b_1'), (9, zP b_12'), (104, zB ((!decide ((((b6 text).1).getD ((c_1_4' + 1)).toNat default).1 = 1)) || (!decide (d4 ((((b6 text).1).getD ((c_1_4' + 1)).toNat default).2.2) = 0))))] _ ?_)
     refine a8 (b := (!decide ((((b6 text).1).getD ((c_1_4' + 1)).toNat default).1 = 1)) || (!decide (d4 ((((b6 text).1).getD ((c_1_4' + 1)).toNat default).2.2) = 0))) rfl (fun hb => ?_) (fun hb => ?_)
     ·replace h := e6 h hb
      refine a7 (fun _ hK_96' => ?_)
      refine a6 ?_
      refine wm ?_
      obtain ⟨o_91', h⟩ := h
      refine WL.pick (H' := [HA.blk b_1' (.cells [w, zI (c_1_4' + 1), zI c_2_4', zI c_3_5', zI c_4_5', w_21', w_20', zI 0].toArray 62 (0, 0)), HA.row w 64 3 ((b6 text).1).length (((b6 text).1).flatMap d8), HA.row w_21' 69 4 l_9'.length (l_9'.flatMap ndC), pool c_4', HA.blk b_12' (.cells [zI ((((b6 text).1).getD ((c_1_4' + 1)).toNat default).2.1), st ((((b6 text).1).getD ((c_1_4' + 1)).toNat default).2.2), zI 0].toArray 43 (0, 0)), HA.row w_20' 43 3 l_8'.length (l_8'.flatMap rdC), HA.row (Value.slice none 0 0) 43 3 ([] : List RdV).length (([] : List RdV).flatMap rdC), HA.row (Value.slice none 0 0) 69 4 ([] : List NdV).length (([] : List NdV).flatMap ndC), HA.blk b (.cells [Value.slice none 0 0, Value.slice none 0 0, zI 0].toArray 32 (0, 0))]) [3, 4, 2, 8, 0, 1, 5, 6, 7] rfl rfl ?_
      refine WL.call acp rfl (abv b_1' w ((b6 text).1) w_21' l_9' (c_1_4' + 1) c_2_4' c_3_5' c_4_5' w_20' (0 : Int) c_4' (60 : Int) o_91') rfl trivial rfl rfl ?_
      refine WL.nil ?_
      refine kg (hK_96' [(2, zP b), (8, zP b_1')] _ ?_)
      refine k9 ?_
      exact kh (hK_48' (c_1_4' + 1, c_2_4', aca c_3_5' (60 : Int), acd ((b6 text).1) (c_1_4' + 1) c_3_5' c_4_5', w_21', l_9', c_4', w_20', l_8') h) [0, 1, 2, 3, 5, 6, 7, 8]
     ·replace h := d9 h hb
      refine b5 ?_
      refine kg (hK_93' [(2, zP b), (8, zP b_1'), (9, zP b_12')] _ ?_)
      refine a7 (fun _ hK_97' => ?_)
      refine a6 ?_
      refine wm ?_
      refine wv (OV.nilCheck rfl) ?_
      refine wv (OV.fieldAddr0 rfl e7) ?_
      refine wv (OV.load rfl (At.own 3 rfl) rfl b4) ?_
      obtain ⟨o_92', h⟩ := h
      refine wv (OV.add rfl rfl o_92') ?_
      refine wv (OV.nilCheck rfl) ?_
      refine wv (OV.fieldAddr0 rfl e7) ?_
      refine WL.store (vs := [zI ((c_1_4' + 1) + 1)]) (cs' := [w, zI ((c_1_4' + 1) + 1), zI c_2_4', zI c_3_5', zI c_4_5', w_21', w_20', zI 0]) 3 rfl rfl rfl rfl f9 (Nat.le_of_ble_eq_true rfl) rfl rfl rfl ?_
      refine WL.nil ?_
      refine kg (hK_97' [(2, zP b), (8, zP b_1'), (9, zP b_12')] _ ?_)
      refine a7 (fun _ hK_98' => ?_)
      refine a6 ?_
      refine wm ?_
      obtain ⟨o_93', h⟩ := h
      refine WL.pick (H' := [HA.blk b_1' (.cells [w, zI ((c_1_4' + 1) + 1), zI c_2_4', zI c_3_5', zI c_4_5', w_21', w_20', zI 0].toArray 62 (0, 0)), HA.row w 64 3 ((b6 text).1).length (((b6 text).1).flatMap d8), HA.row w_21' 69 4 l_9'.length (l_9'.flatMap ndC), pool c_4', HA.blk b_12' (.cells [zI ((((b6 text).1).getD ((c_1_4' + 1)).toNat default).2.1), st ((((b6 text).1).getD ((c_1_4' + 1)).toNat default).2.2), zI 0].toArray 43 (0, 0)), HA.row w_20' 43 3 l_8'.length (l_8'.flatMap rdC), HA.row (Value.slice none 0 0) 43 3 ([] : List RdV).length (([] : List RdV).flatMap rdC), HA.row (Value.slice none 0 0) 69 4 ([] : List NdV).length (([] : List NdV).flatMap ndC), HA.blk b (.cells [Value.slice none 0 0, Value.slice none 0 0, zI 0].toArray 32 (0, 0))]) [3, 4, 2, 8, 0, 1, 5, 6, 7] rfl rfl ?_
      refine WL.callS aay rfl (aac b_1' w ((b6 text).1) w_21' l_9' ((c_1_4' + 1) + 1) c_2_4' c_3_5' c_4_5' w_20' (0 : Int) c_4' ([61] : List UInt8) o_93') rfl trivial rfl rfl (fun r H' hS => ?_) (fun c H' hS => ?_)
      ·obtain ⟨k_16', op_16', er_16', ea_16', hc, ho⟩ := hS
       cases ho
       replace h := h k_16' op_16' er_16' ea_16' hc
       refine WL.nil ?_
       refine kg (hK_98' [(2, zP b), (8, zP b_1'), (9, zP b_12')] _ ?_)
       refine a7 (fun _ hK_99' => ?_)
       refine a6 ?_
       refine wm ?_
       obtain ⟨o_94', h⟩ := h
       obtain ⟨o_95', h⟩ := h
       refine WL.callS acn rfl (o_94' b_1' w w_21' l_9' op_16' ea_16' w_20' (0 : Int) c_4' o_95') rfl trivial rfl rfl (fun r H' hS => ?_) (fun c H' hS => ?_)
       ·obtain ⟨w_22', i_6', k_17', op_17', er_17', ea_17', nl_6', B_7', hc, ho⟩ := hS
        cases ho
        replace h := h i_6' k_17' op_17' er_17' ea_17' nl_6' B_7' hc
        refine wv (OV.fieldAddr0 rfl af2) ?_
        refine WL.store (vs := [zI i_6']) (cs' := [zI ((((b6 text).1).getD ((c_1_4' + 1)).toNat default).2.1), st ((((b6 text).1).getD ((c_1_4' + 1)).toNat default).2.2), zI i_6']) 4 rfl rfl rfl rfl f9 (Nat.le_of_ble_eq_true rfl) rfl rfl rfl ?_
        refine WL.nil ?_
        refine kg (hK_99' [(2, zP b), (8, zP b_1'), (9, zP b_12')] _ ?_)
        refine a7 (fun _ hK_100' => ?_)
        refine a6 ?_
        refine wm ?_
        obtain ⟨o_96', h⟩ := h
        refine WL.callS aay rfl (aac b_1' w ((b6 text).1) w_22' nl_6' k_17' op_17' er_17' ea_17' w_20' (0 : Int) B_7' ([59] : List UInt8) o_96') rfl trivial rfl rfl (fun r H' hS => ?_) (fun c H' hS => ?_)
        ·obtain ⟨k_18', op_18', er_18', ea_18', hc, ho⟩ := hS
         cases ho
         replace h := h k_18' op_18' er_18' ea_18' hc
         refine WL.nil ?_
         refine kg (hK_100' [(2, zP b), (8, zP b_1'), (9, zP b_12')] _ ?_)
         refine ag2 7 [0, 1, 2, 3, 4, 6, 7, 8] [HA.blk b_1' (.cells [w, zI k_18', zI op_18', zI er_18', zI ea_18', w_22', w_20', zI 0].toArray 62 (0, 0)), HA.row w 64 3 ((b6 text).1).length (((b6 text).1).flatMap d8), HA.row w_22' 69 4 nl_6'.length (nl_6'.flatMap ndC), pool B_7', HA.blk b_12' (.cells [zI ((((b6 text).1).getD ((c_1_4' + 1)).toNat default).2.1), st ((((b6 text).1).getD ((c_1_4' + 1)).toNat default).2.2), zI i_6'].toArray 43 (0, 0)), HA.row (Value.slice none 0 0) 43 3 ([] : List RdV).length (([] : List RdV).flatMap rdC), HA.row (Value.slice none 0 0) 69 4 ([] : List NdV).length (([] : List NdV).flatMap ndC), HA.blk b (.cells [Value.slice none 0 0, Value.slice none 0 0, zI 0].toArray 32 (0, 0))] rfl rfl f0 (by kernel_rfl) (fun T_26' hT_26' => ?_)
         refine TW.val (OV.move rfl) rfl rfl rfl ?_
         refine TW.val (OV.move rfl) rfl rfl rfl ?_
         refine TW.val (OV.nilCheck rfl) rfl rfl rfl ?_
         refine TW.val (OV.fieldAddr0 rfl w9) rfl rfl rfl ?_
         refine TW.val (OV.fieldAddr rfl abb) rfl rfl rfl ?_
         refine TW.val (OV.load rfl (At.own 0 rfl) rfl aej) rfl rfl rfl ?_
         refine TW.val (OV.loadR rfl (At.own 4 rfl) as5) rfl rfl rfl ?_
         refine TW.nil (hT_26' _ ?_)
         refine WLX.make (MV.buildSlice (cs := [zI ((((b6 text).1).getD ((c_1_4' + 1)).toNat default).2.1), st ((((b6 text).1).getD ((c_1_4' + 1)).toNat default).2.2), zI i_6']) rfl ae1 (by kernel_rfl)) [1, 2, 3, 4, 5, 7, 8, 9] rfl (fun _ => rfl) rfl rfl rfl (fun b_13' => ?_)
         obtain ⟨o_97', h⟩ := h
         refine WLX.valX (afm (f := rdC) (ms := [((((((b6 text).1).getD ((c_1_4' + 1)).toNat default).2.1), (((b6 text).1).getD ((c_1_4' + 1)).toNat default).2.2, i_6') : RdV)]) 6 0 rfl rfl rfl rfl rfl rfl aiw (by decide) rfl ae1 aqv rfl o_97') [1, 2, 3, 4, 5, 7, 8, 9] rfl (fun _ _ e => by cases e; rfl) rfl rfl rfl (fun w_23' _ e => ?_)
         cases e
         refine WLX.op [1, 2, 3, 4, 5, 7, 8, 9] rfl rfl (OpK.val (OV.nilCheck rfl) rfl rfl) rfl ?_
         refine WLX.op [1, 2, 3, 4, 5, 7, 8, 9] rfl rfl (OpK.val (OV.fieldAddr0 rfl w9) rfl rfl) rfl ?_
         refine WLX.op [1, 2, 3, 4, 5, 7, 8, 9] rfl rfl (OpK.val (OV.fieldAddr rfl abb) rfl rfl) rfl ?_
         refine WLX.opZ (OpK.storeSl (cs' := [w, zI k_18', zI op_18', zI er_18', zI ea_18', w_22', w_23', zI 0]) 1 6 rfl rfl rfl rfl apr (Nat.le_of_ble_eq_true rfl) rfl) rfl ?_
         refine WLX.nil ?_
         exact kh (hK_86' (w_23', l_8' ++ [((((((b6 text).1).getD ((c_1_4' + 1)).toNat default).2.1), (((b6 text).1).getD ((c_1_4' + 1)).toNat default).2.2, i_6') : RdV)], w_22', nl_6', k_18', op_18', er_18', ea_18', B_7') h.1 h.2) [6, 3, 1, 2, 7, 8, 9, 4]
        ·obtain ⟨k_18', op_18', er_18', ea_18', hc, ho⟩ := hS
         cases ho
       ·obtain ⟨w_22', i_6', k_17', op_17', er_17', ea_17', nl_6', B_7', hc, ho⟩ := hS
        cases ho
      ·obtain ⟨k_16', op_16', er_16', ea_16', hc, ho⟩ := hS
       cases ho
    ·replace h := d9 h hb
     refine k9 ?_
     exact kh (hK_48' (c_1_4', c_2_4', c_3_5', c_4_5', w_21', l_9', c_4', w_20', l_8') h) [2, 3, 1, 7, 0, 4, 5, 6]
 ·obtain ⟨w, ho⟩ := hS
  cases ho
def RDs (B : List (Nat × Obj)) (ns : List NdV) : List r9 → List RdV → Prop
 | [], [] => True
 | d :: r, x :: s => (x.1 = d.1 ∧ x.2.1 = d.2.1 ∧ Nd B ns d.2.2 x.2.2) ∧ RDs B ns r s
 | _, _ => False
theorem RDs.more {B B2 : List (Nat × Obj)} (h : ∀ p ∈ B, p ∈ B2) (ns x : List NdV) : ∀ {l : List r9} {rs : List RdV}, RDs B ns l rs → RDs B2 (ns ++ x) l rs
 | [], [], _ => trivial
 | _ :: _, _ :: _, ⟨⟨h1, h2, h3⟩, h4⟩ => ⟨⟨h1, h2, Nd.more h _ _ _ _ h3⟩, h4.more h ns x⟩
 | [], _ :: _, h4 => h4.elim
 | _ :: _, [], h4 => h4.elim
theorem RDs.snoc {B : List (Nat × Obj)} {ns : List NdV} {d : r9} {j : Int} (hv : Nd B ns d.2.2 j) : ∀ {l : List r9} {rs : List RdV}, RDs B ns l rs → RDs B ns (l ++ [d]) (rs ++ [(d.1, d.2.1, j)])
 | [], [], _ => ⟨⟨rfl, rfl, hv⟩, trivial⟩
 | _ :: _, _ :: _, ⟨h1, h4⟩ => ⟨h1, h4.snoc hv⟩
 | [], _ :: _, h4 => h4.elim
 | _ :: _, [], h4 => h4.elim
theorem RDs.len {B : List (Nat × Obj)} {ns : List NdV} : ∀ {l : List r9} {rs : List RdV}, RDs B ns l rs → rs.length = l.length
 | [], [], _ => rfl
 | _ :: _, _ :: _, ⟨_, h4⟩ => by rw [List.length_cons, List.length_cons, h4.len]
 | [], _ :: _, h4 => h4.elim
 | _ :: _, [], h4 => h4.elim
def au6 (B : List (Nat × Obj)) (wn wd : Value) (mn : Int) (ns : List NdV) (rs : List RdV) (l : List r9) (a : Ex) : Prop :=
 (∃ R, aaw wn 69 4 ns.length (ns.flatMap ndC) R ∧ ∀ p ∈ R, p ∈ B) ∧ (∃ R, aaw wd 43 3 rs.length (rs.flatMap rdC) R ∧ ∀ p ∈ R, p ∈ B) ∧ RDs B ns l rs ∧ Nd B ns a mn
def awd (t : Bs) (B : List (Nat × Obj)) (wn wd : Value) (mn e at0 : Int) (B2 : List (Nat × Obj)) : Prop := (∀ p ∈ B, p ∈ B2) ∧ (match s7 t with
 | .ok x => (e = 0 ∧ at0 = 0) ∧ ∃ ns rs, au6 B2 wn wd mn ns rs x.1 x.2
 | .error y => (e = y.1 ∧ at0 = y.2) ∧ wn = am2 ∧ wd = am2 ∧ mn = 0)
theorem aip (t : List UInt8) (B : List (Nat × Obj)) : d7 Tryd.prog 10 [st t] [] [pool B]
  (fun o => ∃ wn wd mn e at0 B2, awd t B wn wd mn e at0 B2 ∧ o = .ret (.tuple #[.agg [wn, wd, zI mn].toArray, .int .i64 e, .int .i64 at0]) [pool B2]) := by
 refine (asm t B (fun wn wd mn e at0 B2 => awd t B wn wd mn e at0 B2) ?_).weak ?_
 ·unfold ah1
  by_cases h0 : (b6 t).2.1 = 0
  ·rw [if_neg (by rw [h0]; decide)]
   have hP := amb h0
   have hS : s7 t = x5 (b6 t).1 := by unfold s7; rw [if_pos h0]
   unfold awd
   rw [hS]
   generalize (b6 t).1 = ts at hP ⊢
   obtain ⟨p1, p2, p3, p4, p5⟩ := hP
   have hp0 : RP ts 0 0 0 [] := ⟨Int.le_refl 0, by omega, Int.le_refl 0, by decide, p3, p4, p5, Int.le_refl 0⟩
   refine ⟨fun k o er ea ns B' rs => RP ts k o er ns ∧ (∀ p ∈ B, p ∈ B') ∧ (er = 0 → o = 0 ∧ ∃ l, x5 ts = aow ts (.ok (l, (k.toNat, 0))) ∧ RDs B' ns l rs) ∧ (er ≠ 0 → x5 ts = .error (er, ea)), fun k o er ea ns B' rs hj => ?_, ?_⟩
   ·obtain ⟨j1, j2, j3, j4⟩ := hj
    refine ⟨al7 _ _ _ _, ⟨j1, by decide, by decide⟩, fun i k2 o2 er2 ea2 ns2 B2 hf => ?_⟩
    have hf : x8 (sE ts 0 (k.toNat, o)) ts B' ns k o er ea i k2 o2 er2 ea2 ns2 B2 := hf
    by_cases he : er = 0
    ·subst he
     obtain ⟨rfl, l, i1, i2⟩ := j3 rfl
     obtain ⟨g, r⟩ := hf.zero
     have gb := g.rp
     obtain ⟨x, hx⟩ := g.ex
     unfold aow at i1
     dsimp only at i1
     refine ⟨fun e2 a2 => (e2 = 0 → er2 = 0 ∧ (b3 ts k2.toNat).1 = 0) ∧ (e2 ≠ 0 → x5 ts = .error (e2, a2)), fun e2 a2 hj => ?_, fun _ => ⟨gb.k0, gb.k1⟩, ?_⟩
     ·by_cases h2 : e2 = 0
      ·subst h2
       obtain ⟨rfl, h3⟩ := hj.1 rfl
       rw [if_neg (by decide)]
       intro w R hR w2 R2 hR2
       cases hq : sE ts 0 (k.toNat, 0) with
       | error y => rw [hq] at r; exact absurd r.1.symm (ahu hq)
       | ok y =>
        obtain ⟨a, q⟩ := y
        rw [hq] at r i1
        obtain ⟨⟨_, r2, r3, r4⟩, hn⟩ := r
        have hq1 : q.1 = k2.toNat := by omega
        dsimp only at i1
        rw [hq1, if_pos h3] at i1
        rw [i1]
        refine ⟨fun p hp => List.mem_append_right _ (List.mem_append_right _ (g.sub p (j2 p hp))), ⟨rfl, rfl⟩, ns2, rs, ⟨R, hR, fun p hp => List.mem_append_right _ (List.mem_append_left _ hp)⟩, ⟨R2, hR2, fun p hp => List.mem_append_left _ hp⟩, ?_, ?_⟩
        ·subst hx
         exact i2.more (fun p hp => List.mem_append_right _ (List.mem_append_right _ (g.sub p hp))) ns x
        ·have := Nd.more (fun p hp => List.mem_append_right R2 (List.mem_append_right R hp)) ns2 [] _ _ hn
         rwa [List.append_nil] at this
      ·rw [if_pos (by rw [decide_eq_false h2]; rfl)]
       rw [hj.2 h2]
       exact ⟨fun p hp => g.sub p (j2 p hp), ⟨rfl, rfl⟩, rfl, rfl, rfl⟩
     ·by_cases hz : er2 = 0 ∧ ¬ (b3 ts k2.toNat).1 = 0
      ·obtain ⟨rfl, hz⟩ := hz
       rw [if_pos (by rw [Bool.and_eq_true, Bool.not_eq_true', decide_eq_true_eq, decide_eq_false_iff_not]; exact ⟨rfl, hz⟩)]
       rw [aq1, aqh]
       refine ⟨⟨gb.k0, gb.k1⟩, fun h => absurd h (by decide), fun _ => ?_⟩
       cases hq : sE ts 0 (k.toNat, 0) with
       | error y => rw [hq] at r; exact absurd r.1.symm (ahu hq)
       | ok y =>
        obtain ⟨a, q⟩ := y
        rw [hq] at r i1
        have hq1 : q.1 = k2.toNat := by have := r.1.2.2.1; omega
        dsimp only at i1
        rw [hq1, if_neg hz] at i1
        exact i1
      ·rw [if_neg (by rw [Bool.and_eq_true, Bool.not_eq_true', decide_eq_true_eq, decide_eq_false_iff_not]; exact hz)]
       refine ⟨fun h => ⟨h, ?_⟩, fun h => ?_⟩
       ·apply Decidable.byContradiction
        intro h3; exact hz ⟨h, h3⟩
       ·cases hq : sE ts 0 (k.toNat, 0) with
        | error y => rw [hq] at r i1; rw [i1, r.1, r.2]
        | ok y => obtain ⟨a, q⟩ := y; rw [hq] at r; exact absurd r.1.1 h
    ·obtain ⟨rfl, rfl, rfl, rfl, rfl, rfl⟩ := hf.stay he
     refine ⟨fun e2 a2 => e2 = er2 ∧ a2 = ea2, fun e2 a2 hj => ?_, fun h => absurd (of_decide_eq_true h) he, ?_⟩
     ·obtain ⟨rfl, rfl⟩ := hj
      rw [if_pos (by rw [decide_eq_false he]; rfl), j4 he]
      exact ⟨j2, ⟨rfl, rfl⟩, rfl, rfl, rfl⟩
     ·rw [if_neg (by rw [decide_eq_false he, Bool.false_and]; decide)]
      exact ⟨rfl, rfl⟩
   ·refine ⟨fun rs ns k o er ea B' => Gr ts B [] 0 k o er ns B' ∧ (rs.length : Int) ≤ k ∧ (er = 0 → o = 0 ∧ ∃ f l, x5 ts = aow ts (pD ts (BIG ts) f l (k.toNat, 0)) ∧ RDs B' ns l rs ∧ (ts.length : Int) < f + k) ∧ (er ≠ 0 → x5 ts = .error (er, ea)), fun _ _ k _ _ _ _ => (ts.length - k).toNat, ⟨Gr.step hp0 (Int.le_refl 0), Int.le_refl 0, fun _ => ⟨rfl, BIG ts, [], aet ts, trivial, by unfold BIG; omega⟩, fun h => absurd rfl h⟩, ?_⟩
    rintro rs ns k o er ea B' ⟨g, hrs, i1, i2⟩
    have hb := g.rp
    have kk : 0 ≤ k ∧ k < (ts.length : Int) := ⟨hb.k0, hb.k1⟩
    have gr := g.rel
    refine ⟨fun _ => kk, fun _ => kk, ?_⟩
    by_cases he : er = 0
    ·subst he
     obtain ⟨rfl, f, l, e1, e2, e3⟩ := i1 rfl
     obtain ⟨f, rfl⟩ : ∃ q, f = q + 1 := ⟨f - 1, by omega⟩
     rw [if_pos rfl] at gr
     rw [art] at e1
     dsimp only at e1
     by_cases h1 : (b3 ts k.toNat).1 = 1 ∧ (b3 ts k.toNat).2.2 = [108, 101, 116]
     ·rw [if_pos (by rw [Bool.and_eq_true, Bool.and_eq_true, decide_eq_true_eq, decide_eq_true_eq, decide_eq_true_eq]; exact ⟨⟨rfl, h1.1⟩, h1.2⟩)]
      rw [if_pos h1] at e1
      have hl1 := hb.next (by rw [h1.1]; decide)
      have hk1 : (k + 1).toNat = k.toNat + 1 := by omega
      have hlen := hb.len
      have hnn := hb.nn
      rw [if_pos rfl] at hnn
      have hb1 : RP ts (k + 1) 0 0 ns := hb.at (by omega) hl1 hb.o0 hb.o1 (by rw [if_pos rfl]; omega)
      refine ⟨by unfold I64; omega, ⟨by omega, hl1⟩, ⟨by omega, hl1⟩, ⟨by omega, hl1⟩, ?_⟩
      by_cases h2 : (b3 ts (k.toNat + 1)).1 ≠ 1 ∨ d4 (b3 ts (k.toNat + 1)).2.2 ≠ 0
      ·rw [if_pos (by
        rw [hk1, Bool.or_eq_true, Bool.not_eq_true', Bool.not_eq_true', decide_eq_false_iff_not, decide_eq_false_iff_not]; exact h2)]
       rw [if_pos h2] at e1
       rw [aq1, aqh, hk1]
       exact ⟨⟨by omega, hl1⟩, hb1.fault (by decide), g.sub, fun h => absurd h (by decide), fun _ => e1⟩
      ·rw [if_neg (by
        rw [hk1, Bool.or_eq_true, Bool.not_eq_true', Bool.not_eq_true', decide_eq_false_iff_not, decide_eq_false_iff_not]; exact h2)]
       rw [if_neg h2] at e1
       have h3 : (b3 ts (k.toNat + 1)).1 = 1 := by
        apply Decidable.byContradiction
        intro h; exact h2 (.inl h)
       have hl2 : k + 1 + 1 < (ts.length : Int) := hb1.next (by rw [hk1, h3]; decide)
       have hb2 : RP ts (k + 1 + 1) 0 0 ns := hb.at (by omega) hl2 hb.o0 hb.o1 (by rw [if_pos rfl]; omega)
       have hk2 : (k + 1 + 1).toNat = k.toNat + 2 := by omega
       refine ⟨by unfold I64; omega, ⟨⟨by omega, hl2⟩, ⟨Int.le_refl 0, by decide⟩, hlen⟩, fun k3 o3 e3' a3 w3 => ?_⟩
       obtain ⟨r3, c3⟩ := anp hb2 (ah4 (by decide) (by decide) hb2.k0 w3)
       rw [hk2] at c3
       have hle3 : k + 1 + 1 ≤ k3 := by rcases c3 with c | c <;> omega
       refine ⟨al7 _ _ _ _, ⟨r3, by decide, by decide⟩, fun i k4 o4 e4 a4 ns4 B4 hf => ?_⟩
       have hf : x8 (sE ts 0 (k3.toNat, o3)) ts B' ns k3 o3 e3' a3 i k4 o4 e4 a4 ns4 B4 := hf
       have hg4 : Gr ts B' ns k3 k4 o4 e4 ns4 B4 := by
        by_cases h4 : e3' = 0
        ·subst h4; exact hf.zero.1
        ·obtain ⟨rfl, rfl, rfl, rfl, rfl, rfl⟩ := hf.stay h4
         exact Gr.step r3 (Int.le_refl _)
       have hb4 := hg4.rp
       have hle4 := hg4.le
       have hrel4 := hg4.rel
       obtain ⟨x4, hx4⟩ := hg4.ex
       refine ⟨⟨⟨hb4.k0, hb4.k1⟩, ⟨hb4.o0, hb4.o1⟩, hlen⟩, fun k5 o5 e5 a5 w5 => ⟨⟨by omega, by omega⟩, ?_⟩⟩
       have hrl : ∀ y : RdV, ((rs ++ [y]).length : Int) = rs.length + 1 := fun y => by rw [List.length_append, List.length_singleton]; omega
       by_cases h4 : e4 = 0
       ·subst h4
        have h30 : e3' = 0 := by
         apply Decidable.byContradiction
         intro h; exact h ((hf.stay h).2.2.1 ▸ rfl)
        subst h30
        rcases c3 with ⟨_, wm, z3, z4, z5⟩ | ⟨hne, _⟩
        ·subst z4
         rw [wm] at e1
         dsimp only at e1
         obtain ⟨_, r4⟩ := hf.zero
         cases hq : sE ts 0 (k3.toNat, 0) with
         | error y => rw [hq] at r4; exact absurd r4.1.symm (ahu hq)
         | ok y =>
          obtain ⟨a, q⟩ := y
          rw [hq] at r4 e1
          obtain ⟨⟨_, y2, y3, y4⟩, hn⟩ := r4
          have hpg := (ab4 hq).2.2
          dsimp only at hpg e1
          have hqq : q = (k4.toNat, o4) := Prod.ext (by dsimp only; omega) (by rw [y4])
          have ho4 : o4 = 0 := by rw [y4, hpg]
          subst ho4
          rw [hqq] at e1
          obtain ⟨r5, c5⟩ := anp hb4 (ah4 (by decide) (by decide) hb4.k0 w5)
          have hle5 : k4 ≤ k5 := by rcases c5 with c | c <;> omega
          have G5 : Gr ts B [] 0 k5 o5 e5 ns4 B4 := by
           have hn4 := r5.nn
           refine ⟨r5, by omega, ⟨ns4, rfl⟩, fun p hp => hg4.sub p (g.sub p hp), ?_⟩
           show (ns4.length : Int) + 0 ≤ 0 + k5 + _
           omega
          refine ⟨⟨G5, by rw [hrl]; omega, fun h => ?_, fun h => ?_⟩, by show (ts.length - k5).toNat < (ts.length - k).toNat; omega⟩
          ·rcases c5 with ⟨_, wm5, v3, v4, v5⟩ | ⟨hne, _⟩
           ·rw [wm5] at e1
            dsimp only at e1
            subst v4
            refine ⟨rfl, f, _, e1, ?_, by omega⟩
            rw [hk1]
            subst hx4
            exact RDs.snoc (d := ((b3 ts (k.toNat + 1)).2.1, (b3 ts (k.toNat + 1)).2.2, a)) hn (e2.more hg4.sub ns x4)
           ·exact absurd h hne
          ·rcases c5 with ⟨hz, _⟩ | ⟨hne, wm5, v3, v4⟩
           ·exact absurd hz h
           ·rw [wm5] at e1
            exact e1
        ·exact absurd rfl hne
       ·obtain ⟨rfl, rfl, rfl, rfl⟩ := aix h4 w5
        have herr : x5 ts = .error (e5, a5) := by
         by_cases h30 : e3' = 0
         ·subst h30
          rcases c3 with ⟨_, wm, z3, z4, z5⟩ | ⟨hne, _⟩
          ·subst z4
           rw [wm] at e1
           dsimp only at e1
           obtain ⟨_, r4⟩ := hf.zero
           cases hq : sE ts 0 (k3.toNat, 0) with
           | error y => rw [hq] at r4 e1; dsimp only at e1; rw [e1, r4.1, r4.2]; rfl
           | ok y => obtain ⟨a, q⟩ := y; rw [hq] at r4; exact absurd r4.1.1 h4
          ·exact absurd rfl hne
         ·obtain ⟨_, _, z1, z2, _, _⟩ := hf.stay h30
          rcases c3 with ⟨hz, _⟩ | ⟨hne, wm, _⟩
          ·exact absurd hz h30
          ·rw [wm] at e1
           rw [e1, z1, z2]; rfl
        have G5 : Gr ts B [] 0 k5 o5 e5 ns4 B4 := by
         have hn4 := hb4.nn
         refine ⟨hb4, by omega, ⟨ns4, rfl⟩, fun p hp => hg4.sub p (g.sub p hp), ?_⟩
         show (ns4.length : Int) + 0 ≤ 0 + k5 + _
         omega
        exact ⟨⟨G5, by rw [hrl]; omega, fun h => absurd h h4, fun _ => herr⟩, by show (ts.length - k5).toNat < (ts.length - k).toNat; omega⟩
     ·rw [if_neg (by rw [Bool.and_eq_true, Bool.and_eq_true, decide_eq_true_eq, decide_eq_true_eq, decide_eq_true_eq]; exact fun x => h1 ⟨x.1.2, x.2⟩)]
      rw [if_neg h1] at e1
      exact ⟨hb, g.sub, fun _ => ⟨rfl, l, e1, e2⟩, fun h => absurd rfl h⟩
    ·rw [if_neg (by rw [decide_eq_false he, Bool.false_and, Bool.false_and]; decide)]
     exact ⟨hb, g.sub, fun h => absurd h he, fun _ => i2 he⟩
  ·rw [if_pos (by rw [decide_eq_false h0]; rfl)]
   intro R hR R2 hR2
   unfold awd s7
   rw [if_neg h0]
   exact ⟨fun p hp => List.mem_append_right _ (List.mem_append_right _ hp), ⟨rfl, rfl⟩, rfl, rfl, rfl⟩
 ·rintro o (⟨wn, wd, mn, e, at0, B2, h1, rfl⟩ | h)
  ·exact ⟨wn, wd, mn, e, at0, B2, h1, rfl⟩
  ·exact h.elim
def aa4 (B : List (Nat × Obj)) (pv : Value) (i need : Int) (e : Ex) : Prop := d7 Tryd.prog 33 [pv, .int .i64 i, .int .i64 need] (B ++ []) [] (Ret (st (d5 e need)) [])
theorem agr {ns : List NdV} {i : Int} {d : NdV} (h : 0 ≤ i ∧ ns[i.toNat]? = some d) : (0 ≤ i ∧ i < (ns.length : Int)) ∧ ns.getD i.toNat default = d := by
 obtain ⟨h0, h1⟩ := h
 have : i.toNat < ns.length := by
  rcases Nat.lt_or_ge i.toNat ns.length with g | g
  ·exact g
  ·rw [List.getElem?_eq_none g] at h1; cases h1
 refine ⟨⟨h0, by omega⟩, ?_⟩
 rw [List.getD_eq_getElem?_getD, h1]; rfl
theorem v8.lin {B : List (Nat × Obj)} {v : Value} {js : List Int} (h : v8 B v js) : y8 v B js.length (js.flatMap aas) := by
 obtain ⟨R, h1, h2⟩ := h
 exact ⟨R, h1.inSl (y6 abj js), h2⟩
theorem v8.one {B : List (Nat × Obj)} {v : Value} {js : List Int} (h : v8 B v js) : v.oneCell' = true := by
 obtain ⟨R, h1, _⟩ := h
 exact h1.one
theorem ask (t : List UInt8) (B : List (Nat × Obj)) (l : List r9) (a : Ex) (h : s7 t = .ok (l, a)) : d7 Tryd.prog 10 [st t] [] [pool B]
  (fun o => ∃ wn wd mn ns rs R B2, ((au6 B2 wn wd mn ns rs l a ∧ aaw wd 43 3 rs.length (rs.flatMap rdC) R ∧ ∀ p ∈ R, p ∈ B2) ∧ ∀ x ∈ B, x ∈ B2) ∧ o = .ret (.tuple #[.agg [wn, wd, zI mn].toArray, .int .i64 0, .int .i64 0]) [pool B2]) :=
 (aip t B).weak fun o ho => by
  obtain ⟨wn, wd, mn, e, at0, B2, ⟨h1, h2⟩, rfl⟩ := ho
  rw [h] at h2
  obtain ⟨⟨rfl, rfl⟩, ns, rs, h3⟩ := h2
  obtain ⟨R, h4, h5⟩ := h3.2.1
  exact ⟨wn, wd, mn, ns, rs, R, B2, ⟨⟨h3, h4, h5⟩, h1⟩, rfl⟩
theorem apq (t : List UInt8) (B : List (Nat × Obj)) (c p : Int) (h : s7 t = .error (c, p)) : d7 Tryd.prog 10 [st t] [] [pool B]
  (fun o => ∃ B2, True ∧ o = .ret (.tuple #[.agg [am2, am2, zI 0].toArray, .int .i64 c, .int .i64 p]) [pool B2]) :=
 (aip t B).weak fun o ho => by
  obtain ⟨wn, wd, mn, e, at0, B2, ⟨h1, h2⟩, rfl⟩ := ho
  rw [h] at h2
  obtain ⟨⟨rfl, rfl⟩, rfl, rfl, rfl⟩ := h2
  exact ⟨B2, trivial, rfl⟩
end Go.Proofs.YtifajndacnfcbaaDoor
set_option maxRecDepth 100000
namespace Go.Proofs.YtifajndacnfcbaaDoor
open Go Go.RowKit
theorem asj : RowT Tryd.prog 69 4 := ⟨by kernel_rfl, by kernel_rfl⟩
theorem apn : abf Tryd.prog 69 = some [zI 0, zI 0, st [], Value.slice none 0 0] := by kernel_rfl
theorem apt : o7 Tryd.prog 69 4 = true := by kernel_rfl
theorem ald : e9 Tryd.prog 69 0 = some 0 := by kernel_rfl
theorem w8 : e9 Tryd.prog 69 2 = some 2 := by kernel_rfl
theorem ar4 : l6 Tryd.prog 57 = true := by kernel_rfl
theorem aaj : e9 Tryd.prog 69 3 = some 3 := by kernel_rfl
theorem abw : aaa Tryd.prog 67 = true := by kernel_rfl
theorem abq : l6 Tryd.prog 33 = true := by kernel_rfl
def abh (wn : Value) (B : List (Nat × Obj)) (ns : List NdV) (dv : Value) (mn : Int) (i : Int) (need : Int) (js : List Int) (xs : List Ex) (K : (List UInt8) → Prop) : Prop :=
 (0 ≤ i ∧ i < (ns.length : Int)) ∧
 (((ns.getD (i).toNat default).2.2.2).oneCell' = true) ∧
 ∃ (J0_3' : Int → (List UInt8) → Prop),
  (∀ (have0 : Int) (out_4' : List UInt8), J0_3' have0 out_4' →
   (if (decide (have0 < need)) = true then
    (([40] : List UInt8).length + out_4'.length ≤ 9223372036854775807) ∧
    ((([40] : List UInt8) ++ out_4').length + ([41] : List UInt8).length ≤ 9223372036854775807) ∧
    K ((([40] : List UInt8) ++ out_4') ++ ([41] : List UInt8))
   else
    K out_4')) ∧
  (if (decide ((ns.getD (i).toNat default).1 = 1)) = true then
   J0_3' 6 ((ns.getD (i).toNat default).2.2.1)
  else
   (if (decide ((ns.getD (i).toNat default).1 = 2)) = true then
    (((ns.getD (i).toNat default).2.2.1).length ≤ 1048576) ∧
    J0_3' 6 (abc ((ns.getD (i).toNat default).2.2.1))
   else
    (if (decide ((ns.getD (i).toNat default).1 = 3)) = true then
     (([47] : List UInt8).length + ((ns.getD (i).toNat default).2.2.1).length ≤ 9223372036854775807) ∧
     ((([47] : List UInt8) ++ ((ns.getD (i).toNat default).2.2.1)).length + ([47] : List UInt8).length ≤ 9223372036854775807) ∧
     J0_3' 6 ((([47] : List UInt8) ++ ((ns.getD (i).toNat default).2.2.1)) ++ ([47] : List UInt8))
    else
     (if (decide ((ns.getD (i).toNat default).1 = 5)) = true then
      (y8 ((ns.getD (i).toNat default).2.2.2) B js.length (js.flatMap aas)) ∧
      (0 ≤ (0 : Int) ∧ (0 : Int) < (js.length : Int)) ∧
      (y8 ((ns.getD (i).toNat default).2.2.2) B js.length (js.flatMap aas)) ∧
      (((0 : Int)).toNat < js.length) ∧
      (aa4 B (Value.agg [wn, dv, zI mn].toArray) (js.getD ((0 : Int)).toNat default) (0 : Int) (xs.getD ((0 : Int)).toNat default)) ∧
      (([123] : List UInt8).length + (d5 (xs.getD ((0 : Int)).toNat default) (0 : Int)).length ≤ 9223372036854775807) ∧
      ((([123] : List UInt8) ++ (d5 (xs.getD ((0 : Int)).toNat default) (0 : Int))).length + ([125] : List UInt8).length ≤ 9223372036854775807) ∧
      J0_3' 6 ((([123] : List UInt8) ++ (d5 (xs.getD ((0 : Int)).toNat default) (0 : Int))) ++ ([125] : List UInt8))
     else
      (if (decide ((ns.getD (i).toNat default).1 = 6)) = true then
       (y8 ((ns.getD (i).toNat default).2.2.2) B js.length (js.flatMap aas)) ∧
       (0 ≤ (0 : Int) ∧ (0 : Int) < (js.length : Int)) ∧
       (y8 ((ns.getD (i).toNat default).2.2.2) B js.length (js.flatMap aas)) ∧
       (((0 : Int)).toNat < js.length) ∧
       (aa4 B (Value.agg [wn, dv, zI mn].toArray) (js.getD ((0 : Int)).toNat default) (5 : Int) (xs.getD ((0 : Int)).toNat default)) ∧
       ((d5 (xs.getD ((0 : Int)).toNat default) (5 : Int)).length + ((ns.getD (i).toNat default).2.2.1).length ≤ 9223372036854775807) ∧
       J0_3' 5 ((d5 (xs.getD ((0 : Int)).toNat default) (5 : Int)) ++ ((ns.getD (i).toNat default).2.2.1))
      else
       (if (decide ((ns.getD (i).toNat default).1 = 7)) = true then
        (y8 ((ns.getD (i).toNat default).2.2.2) B js.length (js.flatMap aas)) ∧
        (0 ≤ (0 : Int) ∧ (0 : Int) < (js.length : Int)) ∧
        (y8 ((ns.getD (i).toNat default).2.2.2) B js.length (js.flatMap aas)) ∧
        (((0 : Int)).toNat < js.length) ∧
        (aa4 B (Value.agg [wn, dv, zI mn].toArray) (js.getD ((0 : Int)).toNat default) (c9 ((ns.getD (i).toNat default).2.2.1)) (xs.getD ((0 : Int)).toNat default)) ∧
        ((d5 (xs.getD ((0 : Int)).toNat default) (c9 ((ns.getD (i).toNat default).2.2.1))).length + ([32] : List UInt8).length ≤ 9223372036854775807) ∧
        (((d5 (xs.getD ((0 : Int)).toNat default) (c9 ((ns.getD (i).toNat default).2.2.1))) ++ ([32] : List UInt8)).length + ((ns.getD (i).toNat default).2.2.1).length ≤ 9223372036854775807) ∧
        ((((d5 (xs.getD ((0 : Int)).toNat default) (c9 ((ns.getD (i).toNat default).2.2.1))) ++ ([32] : List UInt8)) ++ ((ns.getD (i).toNat default).2.2.1)).length + ([32] : List UInt8).length ≤ 9223372036854775807) ∧
        (y8 ((ns.getD (i).toNat default).2.2.2) B js.length (js.flatMap aas)) ∧
        (0 ≤ (1 : Int) ∧ (1 : Int) < (js.length : Int)) ∧
        (y8 ((ns.getD (i).toNat default).2.2.2) B js.length (js.flatMap aas)) ∧
        (((1 : Int)).toNat < js.length) ∧
        (I64 ((c9 ((ns.getD (i).toNat default).2.2.1)) + 1)) ∧
        (aa4 B (Value.agg [wn, dv, zI mn].toArray) (js.getD ((1 : Int)).toNat default) ((c9 ((ns.getD (i).toNat default).2.2.1)) + 1) (xs.getD ((1 : Int)).toNat default)) ∧
        (((((d5 (xs.getD ((0 : Int)).toNat default) (c9 ((ns.getD (i).toNat default).2.2.1))) ++ ([32] : List UInt8)) ++ ((ns.getD (i).toNat default).2.2.1)) ++ ([32] : List UInt8)).length + (d5 (xs.getD ((1 : Int)).toNat default) ((c9 ((ns.getD (i).toNat default).2.2.1)) + 1)).length ≤ 9223372036854775807) ∧
        J0_3' (c9 ((ns.getD (i).toNat default).2.2.1)) (((((d5 (xs.getD ((0 : Int)).toNat default) (c9 ((ns.getD (i).toNat default).2.2.1))) ++ ([32] : List UInt8)) ++ ((ns.getD (i).toNat default).2.2.1)) ++ ([32] : List UInt8)) ++ (d5 (xs.getD ((1 : Int)).toNat default) ((c9 ((ns.getD (i).toNat default).2.2.1)) + 1)))
       else
        (((ns.getD (i).toNat default).2.2.1).length + ([40] : List UInt8).length ≤ 9223372036854775807) ∧
        ∃ (Inv_1' : (List UInt8) → Int → Prop) (mu_1' : (List UInt8) → Int → Nat),
         Inv_1' (((ns.getD (i).toNat default).2.2.1) ++ ([40] : List UInt8)) 0 ∧ ∀ (out_7' : List UInt8) (k_3' : Int), Inv_1' out_7' k_3' →
          (y8 ((ns.getD (i).toNat default).2.2.2) B js.length (js.flatMap aas)) ∧
          (if (decide (k_3' < (js.length : Int))) = true then
           ∃ (J0_6' : (List UInt8) → Prop),
            (∀ (out_8' : List UInt8), J0_6' out_8' →
             (y8 ((ns.getD (i).toNat default).2.2.2) B js.length (js.flatMap aas)) ∧
             (0 ≤ k_3' ∧ k_3' < (js.length : Int)) ∧
             (y8 ((ns.getD (i).toNat default).2.2.2) B js.length (js.flatMap aas)) ∧
             ((k_3').toNat < js.length) ∧
             (aa4 B (Value.agg [wn, dv, zI mn].toArray) (js.getD (k_3').toNat default) (0 : Int) (xs.getD (k_3').toNat default)) ∧
             (out_8'.length + (d5 (xs.getD (k_3').toNat default) (0 : Int)).length ≤ 9223372036854775807) ∧
             (I64 (k_3' + 1)) ∧
             Inv_1' (out_8' ++ (d5 (xs.getD (k_3').toNat default) (0 : Int))) (k_3' + 1) ∧ mu_1' (out_8' ++ (d5 (xs.getD (k_3').toNat default) (0 : Int))) (k_3' + 1) < mu_1' out_7' k_3') ∧
            (if (decide (0 < k_3')) = true then
             (out_7'.length + ([44, 32] : List UInt8).length ≤ 9223372036854775807) ∧
             J0_6' (out_7' ++ ([44, 32] : List UInt8))
            else
             J0_6' out_7')
          else
           (out_7'.length + ([41] : List UInt8).length ≤ 9223372036854775807) ∧
           J0_3' 6 (out_7' ++ ([41] : List UInt8)))))))))
theorem acz (wn : Value) (B : List (Nat × Obj)) (ns : List NdV) (dv : Value) (mn : Int) (i : Int) (need : Int) (js : List Int) (xs : List Ex) (hRi1 : y8 wn B ns.length (ns.flatMap ndC)) (K : (List UInt8) → Prop) (h : abh wn B ns dv mn i need js xs K) :
  d7 Tryd.prog 33 [Value.agg [wn, dv, zI mn].toArray, zI i, zI need] (B ++ []) [] (fun o => (∃ (v : List UInt8), K v ∧ o = .ret (st v) []) ∨ (False)) := by
 unfold abh at h
 refine c7 (n := 112) (L0 := [(0, Value.agg [wn, dv, zI mn].toArray), (1, zI i), (2, zI need)]) Tryd.func33 rfl rfl rfl rfl (fun w0 M Q hE => ?_)
 have hi1 : LIn ⟨112, [], w0, M, (B ++ [])⟩ wn ns.length (ns.flatMap ndC) := y8.lin hRi1 (fun p hp => List.mem_append_left _ hp)
 refine a7 (fun _ hK => ?_)
 refine a6 ?_
 refine WL.make (MV.box (cs := [wn, dv, zI mn]) rfl rfl) rfl rfl rfl (fun b => ?_)
 refine wA ?_
 refine WL.nil ?_
 refine kg (hK [(1, zI i), (2, zI need), (3, zP b)] _ ?_)
 refine a7 (fun _ hK_1' => ?_)
 refine a6 ?_
 refine wv (OV.fieldAddr0 rfl ab6) ?_
 refine wv (OV.load rfl (At.own 0 rfl) rfl agh) ?_
 refine wm ?_
 obtain ⟨o, h⟩ := h
 refine wv (OV.indexIn hi1 rfl rfl ahh o) ?_
 refine wv (OV.loadInE (f := ndC) hi1 rfl ana (by decide) (by omega) asj) ?_
 refine WL.make (MV.alloc apn) rfl rfl rfl (fun b_1' => ?_)
 refine WL.nilRow 3 1 aas ?_
 obtain ⟨o_1', h⟩ := h
 refine WL.storeW (vs := [zI ((ns.getD (i).toNat default).1), zI ((ns.getD (i).toNat default).2.1), st ((ns.getD (i).toNat default).2.2.1), (ns.getD (i).toNat default).2.2.2]) 1 rfl rfl rfl rfl rfl apt rfl (f7 rfl (f7 rfl (f7 rfl (f7 o_1' y5)))) rfl ?_
 refine WL.nil ?_
 refine kg (hK_1' [(2, zI need), (3, zP b), (7, zP b_1')] _ ?_)
 refine a7 (fun _ hK_2' => ?_)
 refine a6 ?_
 refine wA ?_
 refine WL.nil ?_
 refine kg (hK_2' [(2, zI need), (3, zP b), (7, zP b_1'), (8, zI 6)] _ ?_)
 refine a7 (fun _ hK_3' => ?_)
 refine a6 ?_
 refine wA ?_
 refine WL.nil ?_
 refine kg (hK_3' [(2, zI need), (3, zP b), (7, zP b_1'), (8, zI 6)] _ ?_)
 obtain ⟨J0_3', hJ_3', h⟩ := h
 refine l4 (X := Int × (List UInt8)) (fun σ => J0_3' σ.1 σ.2) (fun σ => [(2, zI need), (8, zI σ.1), (9, st σ.2)]) (fun σ => []) ?_ (fun K0_35' hK_35' => ?_)
 ·rintro ⟨have0, out_4'⟩ hj
  replace h := hJ_3' have0 out_4' hj
  show WC _ _ _ _ [(2, zI need), (8, zI have0), (9, st out_4')] []
  refine a7 (fun _ hK_36' => ?_)
  refine a7 (fun _ hK_37' => ?_)
  refine a6 ?_
  refine wm ?_
  refine wm ?_
  refine wv (OV.lss rfl rfl) ?_
  refine WL.nil ?_
  refine kg (hK_37' [(9, st out_4'), (107, zB (decide (have0 < need)))] _ ?_)
  refine a8 (b := decide (have0 < need)) rfl (fun hb => ?_) (fun hb => ?_)
  ·replace h := e6 h hb
   refine a7 (fun _ hK_38' => ?_)
   refine a6 ?_
   refine wm ?_
   obtain ⟨o_62', h⟩ := h
   refine wv (OV.cat rfl rfl o_62') ?_
   obtain ⟨o_63', h⟩ := h
   refine wv (OV.cat rfl rfl o_63') ?_
   refine wA ?_
   refine WL.nil ?_
   refine kg (hK_38' [(6, st ((([40] : List UInt8) ++ out_4') ++ ([41] : List UInt8)))] _ ?_)
   refine b8 ?_
   exact hE.ret [] rfl rfl (.inl ⟨_, h, rfl⟩) (d6.of1 rfl (RV.tmp rfl))
  ·replace h := d9 h hb
   refine b5 ?_
   refine kg (hK_36' [(9, st out_4')] _ ?_)
   refine a7 (fun _ hK_39' => ?_)
   refine a6 ?_
   refine wm ?_
   refine wA ?_
   refine WL.nil ?_
   refine kg (hK_39' [(6, st out_4')] _ ?_)
   refine b8 ?_
   exact hE.ret [] rfl rfl (.inl ⟨_, h, rfl⟩) (d6.of1 rfl (RV.tmp rfl))
 ·skip
  refine a7 (fun _ hK_40' => ?_)
  refine a6 ?_
  refine wv (OV.fieldAddr0 rfl ald) ?_
  refine wv (OV.load rfl (At.own 1 rfl) rfl b4) ?_
  refine WL.nil ?_
  refine kg (hK_40' [(2, zI need), (3, zP b), (7, zP b_1'), (8, zI 6), (17, zI ((ns.getD (i).toNat default).1))] _ ?_)
  refine b7 ?_
  refine a7 (fun _ hK_41' => ?_)
  refine a6 ?_
  refine wv (OV.eql rfl rfl) ?_
  refine wA ?_
  refine WL.nil ?_
  refine kg (hK_41' [(2, zI need), (3, zP b), (7, zP b_1'), (8, zI 6), (17, zI ((ns.getD (i).toNat default).1)), (43, zB (decide ((ns.getD (i).toNat default).1 = 1)))] _ ?_)
  refine a8 (b := decide ((ns.getD (i).toNat default).1 = 1)) rfl (fun hb => ?_) (fun hb => ?_)
  ·replace h := e6 h hb
   refine a6 ?_
   refine wv (OV.fieldAddr0 rfl w8) ?_
   refine wv (OV.load rfl (At.own 1 rfl) rfl c6) ?_
   refine wA ?_
   refine WL.nil ?_
   exact kh (hK_35' (6, (ns.getD (i).toNat default).2.2.1) h) []
  ·replace h := d9 h hb
   refine a7 (fun _ hK_42' => ?_)
   refine a6 ?_
   refine wv (OV.eql rfl rfl) ?_
   refine wA ?_
   refine WL.nil ?_
   refine kg (hK_42' [(2, zI need), (3, zP b), (7, zP b_1'), (8, zI 6), (17, zI ((ns.getD (i).toNat default).1)), (47, zB (decide ((ns.getD (i).toNat default).1 = 2)))] _ ?_)
   refine a8 (b := decide ((ns.getD (i).toNat default).1 = 2)) rfl (fun hb => ?_) (fun hb => ?_)
   ·replace h := e6 h hb
    refine a6 ?_
    refine wv (OV.fieldAddr0 rfl w8) ?_
    refine wv (OV.load rfl (At.own 1 rfl) rfl c6) ?_
    obtain ⟨o_64', h⟩ := h
    refine WL.call (A := []) ar4 rfl (alf ((ns.getD (i).toNat default).2.2.1) o_64') rfl trivial rfl rfl ?_
    refine wA ?_
    refine WL.nil ?_
    exact kh (hK_35' (6, abc ((ns.getD (i).toNat default).2.2.1)) h) []
   ·replace h := d9 h hb
    refine a7 (fun _ hK_43' => ?_)
    refine a6 ?_
    refine wv (OV.eql rfl rfl) ?_
    refine wA ?_
    refine WL.nil ?_
    refine kg (hK_43' [(2, zI need), (3, zP b), (7, zP b_1'), (8, zI 6), (17, zI ((ns.getD (i).toNat default).1)), (52, zB (decide ((ns.getD (i).toNat default).1 = 3)))] _ ?_)
    refine a8 (b := decide ((ns.getD (i).toNat default).1 = 3)) rfl (fun hb => ?_) (fun hb => ?_)
    ·replace h := e6 h hb
     refine a6 ?_
     refine wv (OV.fieldAddr0 rfl w8) ?_
     refine wv (OV.load rfl (At.own 1 rfl) rfl c6) ?_
     obtain ⟨o_65', h⟩ := h
     refine wv (OV.cat rfl rfl o_65') ?_
     obtain ⟨o_66', h⟩ := h
     refine wv (OV.cat rfl rfl o_66') ?_
     refine wA ?_
     refine WL.nil ?_
     exact kh (hK_35' (6, (([47] : List UInt8) ++ ((ns.getD (i).toNat default).2.2.1)) ++ ([47] : List UInt8)) h) []
    ·replace h := d9 h hb
     refine a7 (fun _ hK_44' => ?_)
     refine a6 ?_
     refine wv (OV.eql rfl rfl) ?_
     refine wA ?_
     refine WL.nil ?_
     refine kg (hK_44' [(2, zI need), (3, zP b), (7, zP b_1'), (8, zI 6), (17, zI ((ns.getD (i).toNat default).1)), (58, zB (decide ((ns.getD (i).toNat default).1 = 5)))] _ ?_)
     refine a8 (b := decide ((ns.getD (i).toNat default).1 = 5)) rfl (fun hb => ?_) (fun hb => ?_)
     ·replace h := e6 h hb
      refine k8 5 [] f0 (by kernel_rfl) rfl (fun T_6' hT_6' => ?_)
      refine fv (fun _ => OV.loadR rfl (At.own 2 rfl) v6) ?_
      refine fv (fun _ => OV.fieldAddr0 rfl aaj) ?_
      refine fv (fun _ => OV.load rfl (At.own 1 rfl) rfl abw) ?_
      obtain ⟨o_67', h⟩ := h
      obtain ⟨o_68', h⟩ := h
      refine fv (fun _ => OV.indexIn (y8.lin o_67' (fun p hp => List.mem_append_left _ hp)) rfl rfl aau o_68') ?_
      obtain ⟨o_69', h⟩ := h
      obtain ⟨o_70', h⟩ := h
      refine fv (fun _ => OV.loadInE1 (f := aas) (l := js) (y8.lin o_69' (fun p hp => List.mem_append_left _ hp)) rfl abj o_70' rfl b4) ?_
      refine FL.weak (L' := fun γ => [(2, zI need), (8, zI 6), (60, Value.agg [wn, dv, zI mn].toArray), (64, zI (js.getD ((0 : Int)).toNat default))]) (fun γ => ⟨rfl, rfl, rfl, rfl, trivial⟩) (FL.nil (hT_6' (fun γ => [(2, zI need), (8, zI 6), (60, Value.agg [wn, dv, zI mn].toArray), (64, zI (js.getD ((0 : Int)).toNat default))]) (fun γ => ?_)))
      obtain ⟨o_71', h⟩ := h
      refine WL.call (A := []) abq rfl (o_71') rfl (ROk.of (fun _ h => h)) rfl rfl ?_
      obtain ⟨o_72', h⟩ := h
      refine wv (OV.cat rfl rfl o_72') ?_
      obtain ⟨o_73', h⟩ := h
      refine wv (OV.cat rfl rfl o_73') ?_
      refine wA ?_
      refine WL.nil ?_
      exact kh (hK_35' (6, (([123] : List UInt8) ++ (d5 (xs.getD ((0 : Int)).toNat default) (0 : Int))) ++ ([125] : List UInt8)) h) []
     ·replace h := d9 h hb
      refine a7 (fun _ hK_45' => ?_)
      refine a6 ?_
      refine wv (OV.eql rfl rfl) ?_
      refine wA ?_
      refine WL.nil ?_
      refine kg (hK_45' [(2, zI need), (3, zP b), (7, zP b_1'), (8, zI 6), (17, zI ((ns.getD (i).toNat default).1)), (68, zB (decide ((ns.getD (i).toNat default).1 = 6)))] _ ?_)
      refine a8 (b := decide ((ns.getD (i).toNat default).1 = 6)) rfl (fun hb => ?_) (fun hb => ?_)
      ·replace h := e6 h hb
       refine a7 (fun _ hK_46' => ?_)
       refine a6 ?_
       refine wA ?_
       refine WL.nil ?_
       refine kg (hK_46' [(2, zI need), (3, zP b), (7, zP b_1'), (8, zI 5)] _ ?_)
       refine k8 8 [] f0 (by kernel_rfl) rfl (fun T_7' hT_7' => ?_)
       refine fv (fun _ => OV.loadR rfl (At.own 2 rfl) v6) ?_
       refine fv (fun _ => OV.fieldAddr0 rfl aaj) ?_
       refine fv (fun _ => OV.load rfl (At.own 1 rfl) rfl abw) ?_
       obtain ⟨o_74', h⟩ := h
       obtain ⟨o_75', h⟩ := h
       refine fv (fun _ => OV.indexIn (y8.lin o_74' (fun p hp => List.mem_append_left _ hp)) rfl rfl aau o_75') ?_
       obtain ⟨o_76', h⟩ := h
       obtain ⟨o_77', h⟩ := h
       refine fv (fun _ => OV.loadInE1 (f := aas) (l := js) (y8.lin o_76' (fun p hp => List.mem_append_left _ hp)) rfl abj o_77' rfl b4) ?_
       obtain ⟨o_78', h⟩ := h
       refine FL.call abq (fun _ => rfl) (o_78') (ROk.of (fun _ h => h)) rfl (fun _ => rfl) rfl ?_
       refine fv (fun _ => OV.fieldAddr0 rfl w8) ?_
       refine fv (fun _ => OV.load rfl (At.own 1 rfl) rfl c6) ?_
       refine FL.weak (L' := fun γ => [(2, zI need), (8, zI 5), (75, st (d5 (xs.getD ((0 : Int)).toNat default) (5 : Int))), (77, st ((ns.getD (i).toNat default).2.2.1))]) (fun γ => ⟨rfl, rfl, rfl, rfl, trivial⟩) (FL.nil (hT_7' (fun γ => [(2, zI need), (8, zI 5), (75, st (d5 (xs.getD ((0 : Int)).toNat default) (5 : Int))), (77, st ((ns.getD (i).toNat default).2.2.1))]) (fun γ => ?_)))
       obtain ⟨o_79', h⟩ := h
       refine wv (OV.cat rfl rfl o_79') ?_
       refine wA ?_
       refine WL.nil ?_
       exact kh (hK_35' (5, (d5 (xs.getD ((0 : Int)).toNat default) (5 : Int)) ++ ((ns.getD (i).toNat default).2.2.1)) h) []
      ·replace h := d9 h hb
       refine a7 (fun _ hK_47' => ?_)
       refine a6 ?_
       refine wv (OV.eql rfl rfl) ?_
       refine wA ?_
       refine WL.nil ?_
       refine kg (hK_47' [(2, zI need), (3, zP b), (7, zP b_1'), (8, zI 6), (79, zB (decide ((ns.getD (i).toNat default).1 = 7)))] _ ?_)
       refine a8 (b := decide ((ns.getD (i).toNat default).1 = 7)) rfl (fun hb => ?_) (fun hb => ?_)
       ·replace h := e6 h hb
        refine a7 (fun _ hK_48' => ?_)
        refine a6 ?_
        refine wv (OV.fieldAddr0 rfl w8) ?_
        refine wv (OV.load rfl (At.own 1 rfl) rfl c6) ?_
        refine WL.call (A := []) ame rfl (aj3 ((ns.getD (i).toNat default).2.2.1)) rfl trivial rfl rfl ?_
        refine wA ?_
        refine WL.nil ?_
        refine kg (hK_48' [(2, zI need), (3, zP b), (7, zP b_1'), (8, zI (c9 ((ns.getD (i).toNat default).2.2.1)))] _ ?_)
        refine k8 20 [] f0 (by kernel_rfl) rfl (fun T_8' hT_8' => ?_)
        refine fv (fun _ => OV.loadR rfl (At.own 2 rfl) v6) ?_
        refine fv (fun _ => OV.fieldAddr0 rfl aaj) ?_
        refine fv (fun _ => OV.load rfl (At.own 1 rfl) rfl abw) ?_
        obtain ⟨o_80', h⟩ := h
        obtain ⟨o_81', h⟩ := h
        refine fv (fun _ => OV.indexIn (y8.lin o_80' (fun p hp => List.mem_append_left _ hp)) rfl rfl aau o_81') ?_
        obtain ⟨o_82', h⟩ := h
        obtain ⟨o_83', h⟩ := h
        refine fv (fun _ => OV.loadInE1 (f := aas) (l := js) (y8.lin o_82' (fun p hp => List.mem_append_left _ hp)) rfl abj o_83' rfl b4) ?_
        refine fv (fun _ => OV.move rfl) ?_
        obtain ⟨o_84', h⟩ := h
        refine FL.call abq (fun _ => rfl) (o_84') (ROk.of (fun _ h => h)) rfl (fun _ => rfl) rfl ?_
        obtain ⟨o_85', h⟩ := h
        refine fv (fun _ => OV.cat rfl rfl o_85') ?_
        refine fv (fun _ => OV.fieldAddr0 rfl w8) ?_
        refine fv (fun _ => OV.load rfl (At.own 1 rfl) rfl c6) ?_
        obtain ⟨o_86', h⟩ := h
        refine fv (fun _ => OV.cat rfl rfl o_86') ?_
        obtain ⟨o_87', h⟩ := h
        refine fv (fun _ => OV.cat rfl rfl o_87') ?_
        refine fv (fun _ => OV.loadR rfl (At.own 2 rfl) v6) ?_
        refine fv (fun _ => OV.fieldAddr0 rfl aaj) ?_
        refine fv (fun _ => OV.load rfl (At.own 1 rfl) rfl abw) ?_
        obtain ⟨o_88', h⟩ := h
        obtain ⟨o_89', h⟩ := h
        refine fv (fun _ => OV.indexIn (y8.lin o_88' (fun p hp => List.mem_append_left _ hp)) rfl rfl aau o_89') ?_
        obtain ⟨o_90', h⟩ := h
        obtain ⟨o_91', h⟩ := h
        refine fv (fun _ => OV.loadInE1 (f := aas) (l := js) (y8.lin o_90' (fun p hp => List.mem_append_left _ hp)) rfl abj o_91' rfl b4) ?_
        refine fv (fun _ => OV.move rfl) ?_
        obtain ⟨o_92', h⟩ := h
        refine fv (fun _ => OV.add rfl rfl o_92') ?_
        obtain ⟨o_93', h⟩ := h
        refine FL.call abq (fun _ => rfl) (o_93') (ROk.of (fun _ h => h)) rfl (fun _ => rfl) rfl ?_
        refine FL.weak (L' := fun γ => [(2, zI need), (8, zI (c9 ((ns.getD (i).toNat default).2.2.1))), (95, st ((((d5 (xs.getD ((0 : Int)).toNat default) (c9 ((ns.getD (i).toNat default).2.2.1))) ++ ([32] : List UInt8)) ++ ((ns.getD (i).toNat default).2.2.1)) ++ ([32] : List UInt8))), (103, st (d5 (xs.getD ((1 : Int)).toNat default) ((c9 ((ns.getD (i).toNat default).2.2.1)) + 1)))]) (fun γ => ⟨rfl, rfl, rfl, rfl, trivial⟩) (FL.nil (hT_8' (fun γ => [(2, zI need), (8, zI (c9 ((ns.getD (i).toNat default).2.2.1))), (95, st ((((d5 (xs.getD ((0 : Int)).toNat default) (c9 ((ns.getD (i).toNat default).2.2.1))) ++ ([32] : List UInt8)) ++ ((ns.getD (i).toNat default).2.2.1)) ++ ([32] : List UInt8))), (103, st (d5 (xs.getD ((1 : Int)).toNat default) ((c9 ((ns.getD (i).toNat default).2.2.1)) + 1)))]) (fun γ => ?_)))
        obtain ⟨o_94', h⟩ := h
        refine wv (OV.cat rfl rfl o_94') ?_
        refine wA ?_
        refine WL.nil ?_
        exact kh (hK_35' (c9 ((ns.getD (i).toNat default).2.2.1), ((((d5 (xs.getD ((0 : Int)).toNat default) (c9 ((ns.getD (i).toNat default).2.2.1))) ++ ([32] : List UInt8)) ++ ((ns.getD (i).toNat default).2.2.1)) ++ ([32] : List UInt8)) ++ (d5 (xs.getD ((1 : Int)).toNat default) ((c9 ((ns.getD (i).toNat default).2.2.1)) + 1))) h) []
       ·replace h := d9 h hb
        refine a7 (fun _ hK_49' => ?_)
        refine a6 ?_
        refine wv (OV.fieldAddr0 rfl w8) ?_
        refine wv (OV.load rfl (At.own 1 rfl) rfl c6) ?_
        obtain ⟨o_95', h⟩ := h
        refine wv (OV.cat rfl rfl o_95') ?_
        refine wA ?_
        refine WL.nil ?_
        refine kg (hK_49' [(2, zI need), (3, zP b), (7, zP b_1'), (8, zI 6), (9, st (((ns.getD (i).toNat default).2.2.1) ++ ([40] : List UInt8)))] _ ?_)
        refine a7 (fun _ hK_50' => ?_)
        refine a7 (fun _ hK_51' => ?_)
        refine a6 ?_
        refine wA ?_
        refine WL.nil ?_
        refine kg (hK_51' [(2, zI need), (3, zP b), (7, zP b_1'), (8, zI 6), (9, st (((ns.getD (i).toNat default).2.2.1) ++ ([40] : List UInt8))), (10, zI 0)] _ ?_)
        refine b7 ?_
        refine WC.pick (H' := [HA.blk b_1' (.cells [zI ((ns.getD (i).toNat default).1), zI ((ns.getD (i).toNat default).2.1), st ((ns.getD (i).toNat default).2.2.1), (ns.getD (i).toNat default).2.2.2].toArray 69 (0, 0)), HA.blk b (.cells [wn, dv, zI mn].toArray 32 (0, 0))]) [1, 2] rfl rfl ?_
        obtain ⟨Inv_1', mu_1', h0_1', hr_1'⟩ := h
        refine n6 (S := (List UInt8) × Int) (fun σ => Inv_1' σ.1 σ.2) (fun σ => mu_1' σ.1 σ.2) (fun σ => [(2, zI need), (3, zP b), (7, zP b_1'), (8, zI 6), (9, st σ.1), (10, zI σ.2)]) (fun σ => [HA.blk b_1' (.cells [zI ((ns.getD (i).toNat default).1), zI ((ns.getD (i).toNat default).2.1), st ((ns.getD (i).toNat default).2.2.1), (ns.getD (i).toNat default).2.2.2].toArray 69 (0, 0)), HA.blk b (.cells [wn, dv, zI mn].toArray 32 (0, 0))]) (((ns.getD (i).toNat default).2.2.1) ++ ([40] : List UInt8), 0) h0_1' ⟨rfl, rfl, rfl, rfl, rfl, rfl, trivial⟩ rfl ?_
        rintro ⟨out_7', k_3'⟩ hi K0_64' hK_64'
        have h := hr_1' out_7' k_3' hi
        show WC _ _ _ _ [(2, zI need), (3, zP b), (7, zP b_1'), (8, zI 6), (9, st out_7'), (10, zI k_3')] [HA.blk b_1' (.cells [zI ((ns.getD (i).toNat default).1), zI ((ns.getD (i).toNat default).2.1), st ((ns.getD (i).toNat default).2.2.1), (ns.getD (i).toNat default).2.2.2].toArray 69 (0, 0)), HA.blk b (.cells [wn, dv, zI mn].toArray 32 (0, 0))]
        refine a7 (fun _ hK_65' => ?_)
        refine a7 (fun _ hK_66' => ?_)
        refine a6 ?_
        refine wm ?_
        refine wv (OV.fieldAddr0 rfl aaj) ?_
        refine wv (OV.load rfl (At.own 0 rfl) rfl abw) ?_
        obtain ⟨o_113', h⟩ := h
        refine wv (OV.lenIn (y8.lin o_113' (fun p hp => List.mem_append_left _ hp)) rfl aau) ?_
        refine wv (OV.lss rfl rfl) ?_
        refine WL.nil ?_
        refine kg (hK_66' [(2, zI need), (3, zP b), (7, zP b_1'), (8, zI 6), (9, st out_7'), (10, zI k_3'), (25, zB (decide (k_3' < (js.length : Int))))] _ ?_)
        refine a8 (b := decide (k_3' < (js.length : Int))) rfl (fun hb => ?_) (fun hb => ?_)
        ·replace h := e6 h hb
         refine b5 ?_
         refine kg (hK_65' [(2, zI need), (3, zP b), (7, zP b_1'), (8, zI 6), (9, st out_7'), (10, zI k_3')] _ ?_)
         refine a7 (fun _ hK_67' => ?_)
         refine b7 ?_
         obtain ⟨J0_6', hJ_6', h⟩ := h
         refine l4 (X := (List UInt8)) (fun σ => J0_6' σ) (fun σ => [(2, zI need), (3, zP b), (7, zP b_1'), (8, zI 6), (9, st σ), (10, zI k_3')]) (fun σ => [HA.blk b_1' (.cells [zI ((ns.getD (i).toNat default).1), zI ((ns.getD (i).toNat default).2.1), st ((ns.getD (i).toNat default).2.2.1), (ns.getD (i).toNat default).2.2.2].toArray 69 (0, 0)), HA.blk b (.cells [wn, dv, zI mn].toArray 32 (0, 0))]) ?_ (fun K0_69' hK_69' => ?_)
         ·rintro out_8' hj
          replace h := hJ_6' out_8' hj
          show WC _ _ _ _ [(2, zI need), (3, zP b), (7, zP b_1'), (8, zI 6), (9, st out_8'), (10, zI k_3')] [HA.blk b_1' (.cells [zI ((ns.getD (i).toNat default).1), zI ((ns.getD (i).toNat default).2.1), st ((ns.getD (i).toNat default).2.2.1), (ns.getD (i).toNat default).2.2.2].toArray 69 (0, 0)), HA.blk b (.cells [wn, dv, zI mn].toArray 32 (0, 0))]
          refine k8 8 [] f0 (by kernel_rfl) rfl (fun T_11' hT_11' => ?_)
          refine fv (fun _ => OV.move rfl) ?_
          refine fv (fun _ => OV.loadR rfl (At.own 1 rfl) v6) ?_
          refine fv (fun _ => OV.fieldAddr0 rfl aaj) ?_
          refine fv (fun _ => OV.load rfl (At.own 0 rfl) rfl abw) ?_
          refine fv (fun _ => OV.move rfl) ?_
          obtain ⟨o_115', h⟩ := h
          obtain ⟨o_116', h⟩ := h
          refine fv (fun _ => OV.indexIn (y8.lin o_115' (fun p hp => List.mem_append_left _ hp)) rfl rfl aau o_116') ?_
          obtain ⟨o_117', h⟩ := h
          obtain ⟨o_118', h⟩ := h
          refine fv (fun _ => OV.loadInE1 (f := aas) (l := js) (y8.lin o_117' (fun p hp => List.mem_append_left _ hp)) rfl abj o_118' rfl b4) ?_
          obtain ⟨o_119', h⟩ := h
          refine FL.call abq (fun _ => rfl) (o_119') (ROk.of (fun _ h => h)) rfl (fun _ => rfl) rfl ?_
          refine FL.weak (L' := fun γ => [(2, zI need), (3, zP b), (7, zP b_1'), (8, zI 6), (9, st out_8'), (10, zI k_3'), (32, st out_8'), (39, st (d5 (xs.getD (k_3').toNat default) (0 : Int)))]) (fun γ => ⟨rfl, rfl, rfl, rfl, rfl, rfl, rfl, rfl, trivial⟩) (FL.nil (hT_11' (fun γ => [(2, zI need), (3, zP b), (7, zP b_1'), (8, zI 6), (9, st out_8'), (10, zI k_3'), (32, st out_8'), (39, st (d5 (xs.getD (k_3').toNat default) (0 : Int)))]) (fun γ => ?_)))
          obtain ⟨o_120', h⟩ := h
          refine wv (OV.cat rfl rfl o_120') ?_
          refine wA ?_
          refine WL.nil ?_
          refine kg (hK_67' [(2, zI need), (3, zP b), (7, zP b_1'), (8, zI 6), (9, st (out_8' ++ (d5 (xs.getD (k_3').toNat default) (0 : Int)))), (10, zI k_3')] _ ?_)
          refine a6 ?_
          refine wm ?_
          obtain ⟨o_121', h⟩ := h
          refine wv (OV.add rfl rfl o_121') ?_
          refine wA ?_
          refine WL.nil ?_
          exact kh (hK_64' (out_8' ++ (d5 (xs.getD (k_3').toNat default) (0 : Int)), k_3' + 1) h.1 h.2) [0, 1]
         ·skip
          refine a7 (fun _ hK_70' => ?_)
          refine a6 ?_
          refine wm ?_
          refine wv (OV.gtr rfl rfl) ?_
          refine WL.nil ?_
          refine kg (hK_70' [(2, zI need), (3, zP b), (7, zP b_1'), (8, zI 6), (9, st out_7'), (10, zI k_3'), (29, zB (decide (0 < k_3')))] _ ?_)
          refine a8 (b := decide (0 < k_3')) rfl (fun hb => ?_) (fun hb => ?_)
          ·replace h := e6 h hb
           refine a6 ?_
           refine wm ?_
           obtain ⟨o_122', h⟩ := h
           refine wv (OV.cat rfl rfl o_122') ?_
           refine wA ?_
           refine WL.nil ?_
           exact kh (hK_69' (out_7' ++ ([44, 32] : List UInt8)) h) [0, 1]
          ·replace h := d9 h hb
           refine b5 ?_
           exact kh (hK_69' out_7' h) [0, 1]
        ·replace h := d9 h hb
         refine k9 ?_
         refine kg (hK_50' [(2, zI need), (8, zI 6), (9, st out_7')] _ ?_)
         refine a6 ?_
         refine wm ?_
         obtain ⟨o_123', h⟩ := h
         refine wv (OV.cat rfl rfl o_123') ?_
         refine wA ?_
         refine WL.nil ?_
         exact kh (hK_35' (6, out_7' ++ ([41] : List UInt8)) h) []
section
variable {wn dv : Value} {mn : Int} {B : List (Nat × Obj)} {ns : List NdV}
theorem aiq {v : Bs} {x : Out} (h : (∃ d : Bs, d = v ∧ x = .ret (st d) []) ∨ False) : x = .ret (st v) [] := by
 rcases h with ⟨d, rfl, rfl⟩ | h
 ·rfl
 ·exact h.elim
theorem akb (e : Ex) (need : Int) (hk : OKX e) (hl : wX e ≤ 100000) {hv : Int} {out : Bs} (h : hv = rkX e ∧ out = l5 e) : (if (decide (hv < need)) = true then
  (([40] : List UInt8).length + out.length ≤ 9223372036854775807) ∧ ((([40] : List UInt8) ++ out).length + ([41] : List UInt8).length ≤ 9223372036854775807) ∧ (([40] : List UInt8) ++ out) ++ ([41] : List UInt8) = d5 e need
  else out = d5 e need) := by
 obtain ⟨rfl, rfl⟩ := h
 have hb := ach e hk
 by_cases h : rkX e < need
 ·rw [if_pos (decide_eq_true h)]
  rw [List.length_append]
  simp only [List.length_cons, List.length_nil]
  refine ⟨by omega, by omega, ?_⟩
  unfold d5 par; rw [if_pos h]
 ·rw [if_neg (by rw [decide_eq_true_eq]; exact h)]
  unfold d5 par; rw [if_neg h]
variable (hN : y8 wn B ns.length (ns.flatMap ndC))
include hN
theorem axh (p : Int) (s : Bs) (i need : Int) (h : Nd B ns (.name p s) i) (hk : OKX (.name p s)) : aa4 B (.agg [wn, dv, zI mn].toArray) i need (.name p s) := by
 rw [Nd] at h
 obtain ⟨b, e⟩ := agr h
 refine (acz wn B ns dv mn i need [] [] hN (fun v => v = d5 (.name p s) need) ?_).weak fun x h => aiq h
 unfold abh
 rw [e]
 refine ⟨b, rfl, fun hv out => hv = rkX (.name p s) ∧ out = l5 (.name p s), fun hv out hj => akb _ need hk (by rw [wX]; decide) hj, ?_⟩
 rw [if_pos (by rfl)]
 exact ⟨rfl, by rw [l5]⟩
theorem axq (p : Int) (s : Bs) (i need : Int) (h : Nd B ns (.text p s) i) (hk : OKX (.text p s)) : aa4 B (.agg [wn, dv, zI mn].toArray) i need (.text p s) := by
 rw [Nd] at h
 obtain ⟨b, e⟩ := agr h
 have hs := hk
 rw [OKX] at hs
 refine (acz wn B ns dv mn i need [] [] hN (fun v => v = d5 (.text p s) need) ?_).weak fun x h => aiq h
 unfold abh
 rw [e]
 refine ⟨b, rfl, fun hv out => hv = rkX (.text p s) ∧ out = l5 (.text p s), fun hv out hj => akb _ need hk (by rw [wX]; decide) hj, ?_⟩
 rw [if_neg (by show ¬ decide ((2 : Int) = 1) = true; decide), if_pos (by rfl)]
 exact ⟨show s.length ≤ 1048576 by omega, rfl, by rw [l5]⟩
theorem av5 (p : Int) (s : Bs) (i need : Int) (h : Nd B ns (.regex p s) i) (hk : OKX (.regex p s)) : aa4 B (.agg [wn, dv, zI mn].toArray) i need (.regex p s) := by
 rw [Nd] at h
 obtain ⟨b, e⟩ := agr h
 have hs := hk
 rw [OKX] at hs
 refine (acz wn B ns dv mn i need [] [] hN (fun v => v = d5 (.regex p s) need) ?_).weak fun x h => aiq h
 unfold abh
 rw [e]
 refine ⟨b, rfl, fun hv out => hv = rkX (.regex p s) ∧ out = l5 (.regex p s), fun hv out hj => akb _ need hk (by rw [wX]; decide) hj, ?_⟩
 rw [if_neg (by show ¬ decide ((3 : Int) = 1) = true; decide), if_neg (by show ¬ decide ((3 : Int) = 2) = true; decide), if_pos (by rfl)]
 exact ⟨show 1 + s.length ≤ 9223372036854775807 by omega, show (([47] : Bs) ++ s).length + 1 ≤ 9223372036854775807 by rw [List.length_append]; show 1 + s.length + 1 ≤ _; omega, rfl, by rw [l5]⟩
theorem awv (p : Int) (a : Ex) (v : Value) (i j need : Int) (h : 0 ≤ i ∧ ns[i.toNat]? = some (5, p, [], v)) (hv : v8 B v [j]) (hk : OKX a) (hl : 1 + wX a ≤ 100000) (ih : aa4 B (.agg [wn, dv, zI mn].toArray) j 0 a) : aa4 B (.agg [wn, dv, zI mn].toArray) i need (.keyed p a) := by
 obtain ⟨b, e⟩ := agr h
 have ha := r8 a 0 hk
 refine (acz wn B ns dv mn i need [j] [a] hN (fun v => v = d5 (.keyed p a) need) ?_).weak fun x h => aiq h
 unfold abh
 rw [e]
 refine ⟨b, hv.one, fun hv out => hv = rkX (.keyed p a) ∧ out = l5 (.keyed p a), fun hv out hj => akb _ need (by rw [OKX]; exact hk) (by rw [wX]; exact hl) hj, ?_⟩
 rw [if_neg (by show ¬ decide ((5 : Int) = 1) = true; decide), if_neg (by show ¬ decide ((5 : Int) = 2) = true; decide), if_neg (by show ¬ decide ((5 : Int) = 3) = true; decide), if_pos (by rfl)]
 refine ⟨hv.lin, ⟨Int.le_refl 0, by show (0 : Int) < 1; decide⟩, hv.lin, by show 0 < 1; decide, ih, show 1 + (d5 a 0).length ≤ 9223372036854775807 by omega, show (([123] : Bs) ++ d5 a 0).length + 1 ≤ 9223372036854775807 by rw [List.length_append]; show 1 + (d5 a 0).length + 1 ≤ _; omega, rfl, by rw [l5]; rfl⟩
theorem av3 (p : Int) (o : Bs) (a : Ex) (v : Value) (i j need : Int) (h : 0 ≤ i ∧ ns[i.toNat]? = some (6, p, o, v)) (hv : v8 B v [j]) (ho : o.length ≤ 4096) (hk : OKX a) (hl : 1 + wX a ≤ 100000) (ih : aa4 B (.agg [wn, dv, zI mn].toArray) j 5 a) : aa4 B (.agg [wn, dv, zI mn].toArray) i need (.unary p o a) := by
 obtain ⟨b, e⟩ := agr h
 have ha := r8 a 5 hk
 refine (acz wn B ns dv mn i need [j] [a] hN (fun v => v = d5 (.unary p o a) need) ?_).weak fun x h => aiq h
 unfold abh
 rw [e]
 refine ⟨b, hv.one, fun hv out => hv = rkX (.unary p o a) ∧ out = l5 (.unary p o a), fun hv out hj => akb _ need (by rw [OKX]; exact ⟨ho, hk⟩) (by rw [wX]; exact hl) hj, ?_⟩
 rw [if_neg (by show ¬ decide ((6 : Int) = 1) = true; decide), if_neg (by show ¬ decide ((6 : Int) = 2) = true; decide), if_neg (by show ¬ decide ((6 : Int) = 3) = true; decide), if_neg (by show ¬ decide ((6 : Int) = 5) = true; decide), if_pos (by rfl)]
 refine ⟨hv.lin, ⟨Int.le_refl 0, by show (0 : Int) < 1; decide⟩, hv.lin, by show 0 < 1; decide, ih, show (d5 a 5).length + o.length ≤ 9223372036854775807 by omega, rfl, by rw [l5]; rfl⟩
theorem at5 (p : Int) (o : Bs) (a c : Ex) (v : Value) (i j k need : Int) (h : 0 ≤ i ∧ ns[i.toNat]? = some (7, p, o, v)) (hv : v8 B v [j, k]) (ho : adj o ∧ 0 ≤ c9 o) (hk : OKX a) (hk2 : OKX c) (hl : 1 + wX a + wX c ≤ 100000)
  (ih : aa4 B (.agg [wn, dv, zI mn].toArray) j (c9 o) a) (ih2 : aa4 B (.agg [wn, dv, zI mn].toArray) k (c9 o + 1) c) : aa4 B (.agg [wn, dv, zI mn].toArray) i need (.binary p o a c) := by
 obtain ⟨b, e⟩ := agr h
 have ha := r8 a (c9 o) hk
 have hc := r8 c (c9 o + 1) hk2
 have hol := akk ho.1
 have hr4 := ai3 o
 refine (acz wn B ns dv mn i need [j, k] [a, c] hN (fun v => v = d5 (.binary p o a c) need) ?_).weak fun x h => aiq h
 unfold abh
 rw [e]
 refine ⟨b, hv.one, fun hv out => hv = rkX (.binary p o a c) ∧ out = l5 (.binary p o a c), fun hv out hj => akb _ need (by rw [OKX]; exact ⟨ho, hk, hk2⟩) (by rw [wX]; exact hl) hj, ?_⟩
 rw [if_neg (by show ¬ decide ((7 : Int) = 1) = true; decide), if_neg (by show ¬ decide ((7 : Int) = 2) = true; decide), if_neg (by show ¬ decide ((7 : Int) = 3) = true; decide), if_neg (by show ¬ decide ((7 : Int) = 5) = true; decide), if_neg (by show ¬ decide ((7 : Int) = 6) = true; decide), if_pos (by rfl)]
 refine ⟨hv.lin, ⟨Int.le_refl 0, by show (0 : Int) < 2; decide⟩, hv.lin, by show 0 < 2; decide, ih, show (d5 a (c9 o)).length + 1 ≤ 9223372036854775807 by omega, show (d5 a (c9 o) ++ ([32] : Bs)).length + o.length ≤ 9223372036854775807 by rw [List.length_append]; show (d5 a (c9 o)).length + 1 + o.length ≤ _; omega,
  show ((d5 a (c9 o) ++ ([32] : Bs)) ++ o).length + 1 ≤ 9223372036854775807 by rw [List.length_append, List.length_append]; show (d5 a (c9 o)).length + 1 + o.length + 1 ≤ _; omega, hv.lin, ⟨by decide, by show (1 : Int) < 2; decide⟩, hv.lin, by show 1 < 2; decide, show I64 (c9 o + 1) by unfold I64; omega, ih2,
  show (((d5 a (c9 o) ++ ([32] : Bs)) ++ o) ++ ([32] : Bs)).length + (d5 c (c9 o + 1)).length ≤ 9223372036854775807 by rw [List.length_append, List.length_append, List.length_append]; show (d5 a (c9 o)).length + 1 + o.length + 1 + (d5 c (c9 o + 1)).length ≤ _; omega, rfl, ?_⟩
 show (((d5 a (c9 o) ++ ([32] : Bs)) ++ o) ++ ([32] : Bs)) ++ d5 c (c9 o + 1) = l5 (.binary p o a c)
 rw [l5]
 show _ = d5 a (c9 o) ++ ([32] ++ o ++ [32]) ++ d5 c (c9 o + 1)
 simp only [List.append_assoc]
theorem axk (p : Int) (w : Bs) (l : ExL) (v : Value) (i need : Int) (js : List Int) (h : 0 ≤ i ∧ ns[i.toNat]? = some (4, p, w, v)) (hv : v8 B v js) (hlen : js.length = l.len) (hk : OKX (.call p w l)) (hl : wX (.call p w l) ≤ 100000)
  (g : ∀ q, q < l.len → aa4 B (.agg [wn, dv, zI mn].toArray) (js.getD q default) 0 (l.toL.getD q default)) : aa4 B (.agg [wn, dv, zI mn].toArray) i need (.call p w l) := by
 obtain ⟨b, e⟩ := agr h
 have hk1 := hk
 have hl1 := hl
 rw [OKX] at hk1
 rw [wX] at hl1
 have ha := ajm l hk1.2
 have hll := akg l
 refine (acz wn B ns dv mn i need js l.toL hN (fun v => v = d5 (.call p w l) need) ?_).weak fun x h => aiq h
 unfold abh
 rw [e]
 refine ⟨b, hv.one, fun hv out => hv = rkX (.call p w l) ∧ out = l5 (.call p w l), fun hv out hj => akb _ need hk hl hj, ?_⟩
 rw [if_neg (by show ¬ decide ((4 : Int) = 1) = true; decide), if_neg (by show ¬ decide ((4 : Int) = 2) = true; decide), if_neg (by show ¬ decide ((4 : Int) = 3) = true; decide), if_neg (by show ¬ decide ((4 : Int) = 5) = true; decide), if_neg (by show ¬ decide ((4 : Int) = 6) = true; decide), if_neg (by show ¬ decide ((4 : Int) = 7) = true; decide)]
 refine ⟨show w.length + 1 ≤ 9223372036854775807 by omega, fun c q => 0 ≤ q ∧ q ≤ js.length ∧ (q.toNat < l.len → c ++ x7 l q.toNat = (w ++ [40]) ++ abo l) ∧ (l.len ≤ q.toNat → c = (w ++ [40]) ++ abo l) ∧ c.length + 20000 * wL (x7.dropA l q.toNat) ≤ 4097 + 20000 * wL l, fun _ q => (js.length - q).toNat, ⟨Int.le_refl _, by omega, fun _ => rfl, fun h => ?_, ?_⟩, ?_⟩
 ·cases l with
  | nil => rw [abo, List.append_nil]
  | cons a r => exact absurd h (by show ¬ r.len + 1 ≤ 0; omega)
 ·rw [show (0 : Int).toNat = 0 from rfl, ajq]
  show (w ++ ([40] : Bs)).length + _ ≤ _
  rw [List.length_append]
  show w.length + 1 + _ ≤ _
  omega
 ·rintro c q ⟨i0, i1, i2, i3, i4⟩
  refine ⟨hv.lin, ?_⟩
  by_cases hi : q < js.length
  ·rw [if_pos (decide_eq_true hi)]
   have hil : q.toNat < l.len := by omega
   have i2 := i2 hil
   have ok := hk1.2.at hil
   have hw : wL (x7.dropA l q.toNat) = wX (l.toL.getD q.toNat default) + 1 + wL (x7.dropA l (q.toNat + 1)) := by rw [aha hil, wL]
   have hc2 : (if 0 < q.toNat then ([44, 32] : Bs) else []).length ≤ 2 := by split <;> decide
   have hpl := r8 (l.toL.getD q.toNat default) 0 ok.1
   rw [aof hil] at i2
   refine ⟨fun c3 => c3 = c ++ (if 0 < q.toNat then [44, 32] else []), ?_, ?_⟩
   ·rintro c3 rfl
    refine ⟨hv.lin, ⟨i0, hi⟩, hv.lin, by omega, g _ hil, ?_, by unfold I64; omega, ⟨by omega, by omega, fun _ => ?_, fun h => ?_, ?_⟩, by show (js.length - (q + 1)).toNat < (js.length - q).toNat; omega⟩
    ·rw [List.length_append]; omega
    ·rw [show (q + 1).toNat = q.toNat + 1 by omega, ← i2]; simp only [List.append_assoc]
    ·have he : x7 l (q.toNat + 1) = [] := al2 (by omega) (by omega)
     rw [he, List.append_nil] at i2
     rw [← i2]; simp only [List.append_assoc]
    ·rw [show (q + 1).toNat = q.toNat + 1 by omega, List.length_append, List.length_append]; omega
   ·by_cases h0 : 0 < q
    ·rw [if_pos (decide_eq_true h0)]
     rw [if_pos (show 0 < q.toNat by omega)]
     exact ⟨by show c.length + 2 ≤ _; omega, rfl⟩
    ·rw [if_neg (by rw [decide_eq_true_eq]; exact h0), if_neg (show ¬ 0 < q.toNat by omega), List.append_nil]
  ·rw [if_neg (by rw [decide_eq_true_eq]; exact hi)]
   have h3 := i3 (by omega)
   subst h3
   refine ⟨?_, rfl, ?_⟩
   ·rw [List.length_append, List.length_append]
    show w.length + 1 + (abo l).length + 1 ≤ _
    omega
   ·rw [l5]
end
mutual
theorem ab2 {wn dv : Value} {mn : Int} {B : List (Nat × Obj)} {ns : List NdV} (hN : y8 wn B ns.length (ns.flatMap ndC)) : ∀ (e : Ex) (i need : Int), Nd B ns e i → OKX e → wX e ≤ 100000 → aa4 B (.agg [wn, dv, zI mn].toArray) i need e
 | .name p s, i, need, h, hk, _ => axh hN p s i need h hk
 | .text p s, i, need, h, hk, _ => axq hN p s i need h hk
 | .regex p s, i, need, h, hk, _ => av5 hN p s i need h hk
 | .keyed p a, i, need, h, hk, hl => by
  rw [Nd] at h; rw [OKX] at hk; rw [wX] at hl
  obtain ⟨v, j, h1, h2, h3⟩ := h
  exact awv hN p a v i j need h1 h2 hk hl (ab2 hN a j 0 h3 hk (by omega))
 | .unary p o a, i, need, h, hk, hl => by
  rw [Nd] at h; rw [OKX] at hk; rw [wX] at hl
  obtain ⟨v, j, h1, h2, h3⟩ := h
  exact av3 hN p o a v i j need h1 h2 hk.1 hk.2 hl (ab2 hN a j 5 h3 hk.2 (by omega))
 | .binary p o a b, i, need, h, hk, hl => by
  rw [Nd] at h; rw [OKX] at hk; rw [wX] at hl
  obtain ⟨v, j, k, h1, h2, h3, h4⟩ := h
  exact at5 hN p o a b v i j k need h1 h2 hk.1 hk.2.1 hk.2.2 hl (ab2 hN a j (c9 o) h3 hk.2.1 (by omega)) (ab2 hN b k (c9 o + 1) h4 hk.2.2 (by omega))
 | .call p w l, i, need, h, hk, hl => by
  have hk1 := hk; have hl1 := hl
  rw [Nd] at h; rw [OKX] at hk1; rw [wX] at hl1
  obtain ⟨v, js, h1, h2, h3⟩ := h
  exact axk hN p w l v i need js h1 h2 h3.len hk hl (fun q hq => akj hN l js h3 hk1.2 (by omega) q hq)
theorem akj {wn dv : Value} {mn : Int} {B : List (Nat × Obj)} {ns : List NdV} (hN : y8 wn B ns.length (ns.flatMap ndC)) : ∀ (l : ExL) (js : List Int), NdL B ns l js → OKL l → wL l ≤ 100000 → ∀ q, q < l.len → aa4 B (.agg [wn, dv, zI mn].toArray) (js.getD q default) 0 (l.toL.getD q default)
 | .nil, js, h, hk, hl, q, hq => absurd hq (Nat.not_lt_zero _)
 | .cons a r, js, h, hk, hl, 0, hq => by
  rw [NdL] at h; rw [OKL] at hk; rw [wL] at hl
  obtain ⟨j, ks, h1, h2, rfl⟩ := h
  exact ab2 hN a j 0 h1 hk.1 (by omega)
 | .cons a r, js, h, hk, hl, q + 1, hq => by
  rw [NdL] at h; rw [OKL] at hk; rw [wL] at hl
  obtain ⟨j, ks, h1, h2, rfl⟩ := h
  show aa4 B _ (ks.getD q default) 0 (r.toL.getD q default)
  exact akj hN r ks h2 hk.2 (by omega) q (Nat.lt_of_succ_lt_succ hq)
end
def ah9 (wn : Value) (wd : Value) (B : List (Nat × Obj)) (_ : List NdV) (rs : List RdV) (mn : Int) (xm : Ex) (dx : List Ex) (K : (List UInt8) → Prop) : Prop :=
 ∃ (Inv : (List UInt8) → Int → Prop) (mu : (List UInt8) → Int → Nat),
  Inv [] 0 ∧ ∀ (out_1' : List UInt8) (i_1' : Int), Inv out_1' i_1' →
   (if (decide (i_1' < (rs.length : Int))) = true then
    (0 ≤ i_1' ∧ i_1' < (rs.length : Int)) ∧
    (([108, 101, 116, 32] : List UInt8).length + ((rs.getD (i_1').toNat default).2.1).length ≤ 9223372036854775807) ∧
    ((([108, 101, 116, 32] : List UInt8) ++ ((rs.getD (i_1').toNat default).2.1)).length + ([32, 61, 32] : List UInt8).length ≤ 9223372036854775807) ∧
    (0 ≤ i_1' ∧ i_1' < (rs.length : Int)) ∧
    (aa4 B (Value.agg [wn, wd, zI mn].toArray) ((rs.getD (i_1').toNat default).2.2) (0 : Int) (dx.getD (i_1').toNat default)) ∧
    (((([108, 101, 116, 32] : List UInt8) ++ ((rs.getD (i_1').toNat default).2.1)) ++ ([32, 61, 32] : List UInt8)).length + (d5 (dx.getD (i_1').toNat default) (0 : Int)).length ≤ 9223372036854775807) ∧
    ((((([108, 101, 116, 32] : List UInt8) ++ ((rs.getD (i_1').toNat default).2.1)) ++ ([32, 61, 32] : List UInt8)) ++ (d5 (dx.getD (i_1').toNat default) (0 : Int))).length + ([59, 10] : List UInt8).length ≤ 9223372036854775807) ∧
    (out_1'.length + ((((([108, 101, 116, 32] : List UInt8) ++ ((rs.getD (i_1').toNat default).2.1)) ++ ([32, 61, 32] : List UInt8)) ++ (d5 (dx.getD (i_1').toNat default) (0 : Int))) ++ ([59, 10] : List UInt8)).length ≤ 9223372036854775807) ∧
    (I64 (i_1' + 1)) ∧
    Inv (out_1' ++ ((((([108, 101, 116, 32] : List UInt8) ++ ((rs.getD (i_1').toNat default).2.1)) ++ ([32, 61, 32] : List UInt8)) ++ (d5 (dx.getD (i_1').toNat default) (0 : Int))) ++ ([59, 10] : List UInt8))) (i_1' + 1) ∧ mu (out_1' ++ ((((([108, 101, 116, 32] : List UInt8) ++ ((rs.getD (i_1').toNat default).2.1)) ++ ([32, 61, 32] : List UInt8)) ++ (d5 (dx.getD (i_1').toNat default) (0 : Int))) ++ ([59, 10] : List UInt8))) (i_1' + 1) < mu out_1' i_1'
   else
    (aa4 B (Value.agg [wn, wd, zI mn].toArray) mn (0 : Int) xm) ∧
    (out_1'.length + (d5 xm (0 : Int)).length ≤ 9223372036854775807) ∧
    ((out_1' ++ (d5 xm (0 : Int))).length + ([10] : List UInt8).length ≤ 9223372036854775807) ∧
    K ((out_1' ++ (d5 xm (0 : Int))) ++ ([10] : List UInt8)))
theorem ar7 (wn : Value) (wd : Value) (B : List (Nat × Obj)) (ns : List NdV) (rs : List RdV) (mn : Int) (xm : Ex) (dx : List Ex) (hRi1 : y8 wn B ns.length (ns.flatMap ndC)) (hRi2 : y8 wd B rs.length (rs.flatMap rdC)) (K : (List UInt8) → Prop) (h : ah9 wn wd B ns rs mn xm dx K) :
  d7 Tryd.prog 13 [Value.agg [wn, wd, zI mn].toArray] (B ++ []) [] (fun o => (∃ (v : List UInt8), K v ∧ o = .ret (st v) []) ∨ (False)) := by
 unfold ah9 at h
 refine c7 (n := 39) (L0 := [(0, Value.agg [wn, wd, zI mn].toArray)]) Tryd.func13 rfl rfl rfl rfl (fun w0 M Q hE => ?_)
 have hi1 : LIn ⟨39, [], w0, M, (B ++ [])⟩ wn ns.length (ns.flatMap ndC) := y8.lin hRi1 (fun p hp => List.mem_append_left _ hp)
 have hi2 : LIn ⟨39, [], w0, M, (B ++ [])⟩ wd rs.length (rs.flatMap rdC) := y8.lin hRi2 (fun p hp => List.mem_append_left _ hp)
 refine a7 (fun _ hK => ?_)
 refine a6 ?_
 refine WL.make (MV.box (cs := [wn, wd, zI mn]) rfl rfl) rfl rfl rfl (fun b => ?_)
 refine wA ?_
 refine WL.nil ?_
 refine kg (hK [(1, zP b)] _ ?_)
 refine a7 (fun _ hK_1' => ?_)
 refine a6 ?_
 refine wA ?_
 refine WL.nil ?_
 refine kg (hK_1' [(1, zP b), (3, st [])] _ ?_)
 refine a7 (fun _ hK_2' => ?_)
 refine a7 (fun _ hK_3' => ?_)
 refine a6 ?_
 refine wA ?_
 refine WL.nil ?_
 refine kg (hK_3' [(1, zP b), (3, st []), (4, zI 0)] _ ?_)
 refine b7 ?_
 obtain ⟨Inv, mu, h0, hr⟩ := h
 refine n6 (S := (List UInt8) × Int) (fun σ => Inv σ.1 σ.2) (fun σ => mu σ.1 σ.2) (fun σ => [(1, zP b), (3, st σ.1), (4, zI σ.2)]) (fun σ => [HA.blk b (.cells [wn, wd, zI mn].toArray 32 (0, 0))]) ([], 0) h0 ⟨rfl, rfl, rfl, trivial⟩ rfl ?_
 rintro ⟨out_1', i_1'⟩ hi K0_10' hK_10'
 have h := hr out_1' i_1' hi
 show WC _ _ _ _ [(1, zP b), (3, st out_1'), (4, zI i_1')] [HA.blk b (.cells [wn, wd, zI mn].toArray 32 (0, 0))]
 refine a7 (fun _ hK_11' => ?_)
 refine a7 (fun _ hK_12' => ?_)
 refine a6 ?_
 refine wm ?_
 refine wv (OV.fieldAddr0 rfl abb) ?_
 refine wv (OV.load rfl (At.own 0 rfl) rfl aej) ?_
 refine wv (OV.lenIn hi2 rfl ae1) ?_
 refine wv (OV.lss rfl rfl) ?_
 refine WL.nil ?_
 refine kg (hK_12' [(1, zP b), (3, st out_1'), (4, zI i_1'), (9, zB (decide (i_1' < (rs.length : Int))))] _ ?_)
 refine a8 (b := decide (i_1' < (rs.length : Int))) rfl (fun hb => ?_) (fun hb => ?_)
 ·replace h := e6 h hb
  refine b5 ?_
  refine kg (hK_11' [(1, zP b), (3, st out_1'), (4, zI i_1')] _ ?_)
  refine a7 (fun _ hK_13' => ?_)
  refine b7 ?_
  refine k8 19 [] f0 (by kernel_rfl) rfl (fun T_2' hT_2' => ?_)
  refine fv (fun _ => OV.move rfl) ?_
  refine fv (fun _ => OV.fieldAddr0 rfl abb) ?_
  refine fv (fun _ => OV.load rfl (At.own 0 rfl) rfl aej) ?_
  refine fv (fun _ => OV.move rfl) ?_
  obtain ⟨o_17', h⟩ := h
  refine fv (fun _ => OV.indexIn hi2 rfl rfl ae1 o_17') ?_
  refine fv (fun _ => OV.fieldAddr rfl afz) ?_
  refine fv (fun _ => OV.loadInEF (f := rdC) (o := 1) hi2 rfl aiw (by omega) rfl c6) ?_
  obtain ⟨o_18', h⟩ := h
  refine fv (fun _ => OV.cat rfl rfl o_18') ?_
  obtain ⟨o_19', h⟩ := h
  refine fv (fun _ => OV.cat rfl rfl o_19') ?_
  refine fv (fun _ => OV.loadR rfl (At.own 0 rfl) v6) ?_
  refine fv (fun _ => OV.fieldAddr0 rfl abb) ?_
  refine fv (fun _ => OV.load rfl (At.own 0 rfl) rfl aej) ?_
  refine fv (fun _ => OV.move rfl) ?_
  obtain ⟨o_20', h⟩ := h
  refine fv (fun _ => OV.indexIn hi2 rfl rfl ae1 o_20') ?_
  refine fv (fun _ => OV.fieldAddr rfl af2) ?_
  refine fv (fun _ => OV.loadInEF (f := rdC) (o := 2) hi2 rfl aiw (by omega) rfl b4) ?_
  obtain ⟨o_21', h⟩ := h
  refine FL.call abq (fun _ => rfl) (o_21') (ROk.of (fun _ h => h)) rfl (fun _ => rfl) rfl ?_
  obtain ⟨o_22', h⟩ := h
  refine fv (fun _ => OV.cat rfl rfl o_22') ?_
  obtain ⟨o_23', h⟩ := h
  refine fv (fun _ => OV.cat rfl rfl o_23') ?_
  refine FL.weak (L' := fun γ => [(1, zP b), (3, st out_1'), (4, zI i_1'), (12, st out_1'), (30, st ((((([108, 101, 116, 32] : List UInt8) ++ ((rs.getD (i_1').toNat default).2.1)) ++ ([32, 61, 32] : List UInt8)) ++ (d5 (dx.getD (i_1').toNat default) (0 : Int))) ++ ([59, 10] : List UInt8)))]) (fun γ => ⟨rfl, rfl, rfl, rfl, rfl, trivial⟩) (FL.nil (hT_2' (fun γ => [(1, zP b), (3, st out_1'), (4, zI i_1'), (12, st out_1'), (30, st ((((([108, 101, 116, 32] : List UInt8) ++ ((rs.getD (i_1').toNat default).2.1)) ++ ([32, 61, 32] : List UInt8)) ++ (d5 (dx.getD (i_1').toNat default) (0 : Int))) ++ ([59, 10] : List UInt8)))]) (fun γ => ?_)))
  obtain ⟨o_24', h⟩ := h
  refine wv (OV.cat rfl rfl o_24') ?_
  refine wA ?_
  refine WL.nil ?_
  refine kg (hK_13' [(1, zP b), (3, st (out_1' ++ ((((([108, 101, 116, 32] : List UInt8) ++ ((rs.getD (i_1').toNat default).2.1)) ++ ([32, 61, 32] : List UInt8)) ++ (d5 (dx.getD (i_1').toNat default) (0 : Int))) ++ ([59, 10] : List UInt8)))), (4, zI i_1')] _ ?_)
  refine a6 ?_
  refine wm ?_
  obtain ⟨o_25', h⟩ := h
  refine wv (OV.add rfl rfl o_25') ?_
  refine wA ?_
  refine WL.nil ?_
  exact kh (hK_10' (out_1' ++ ((((([108, 101, 116, 32] : List UInt8) ++ ((rs.getD (i_1').toNat default).2.1)) ++ ([32, 61, 32] : List UInt8)) ++ (d5 (dx.getD (i_1').toNat default) (0 : Int))) ++ ([59, 10] : List UInt8)), i_1' + 1) h.1 h.2) [0]
 ·replace h := d9 h hb
  refine k9 ?_
  refine kg (hK_2' [(1, zP b), (3, st out_1')] _ ?_)
  refine a7 (fun _ hK_14' => ?_)
  refine a6 ?_
  refine wm ?_
  refine wv (OV.loadR rfl (At.own 0 rfl) v6) ?_
  refine wv (OV.fieldAddr0 rfl af4) ?_
  refine wv (OV.load rfl (At.own 0 rfl) rfl b4) ?_
  obtain ⟨o_26', h⟩ := h
  refine WL.call (A := []) abq rfl (o_26') rfl (ROk.of (fun _ h => h)) rfl rfl ?_
  obtain ⟨o_27', h⟩ := h
  refine wv (OV.cat rfl rfl o_27') ?_
  obtain ⟨o_28', h⟩ := h
  refine wv (OV.cat rfl rfl o_28') ?_
  refine wA ?_
  refine WL.nil ?_
  refine kg (hK_14' [(2, st ((out_1' ++ (d5 xm (0 : Int))) ++ ([10] : List UInt8)))] _ ?_)
  refine b8 ?_
  exact hE.ret [] rfl rfl (.inl ⟨_, h, rfl⟩) (d6.of1 rfl (RV.tmp rfl))
theorem RDs.at {B : List (Nat × Obj)} {ns : List NdV} : ∀ {l : List r9} {ds : List RdV} {i : Nat}, RDs B ns l ds → i < l.length → (ds.getD i default).1 = (l.getD i default).1 ∧ (ds.getD i default).2.1 = (l.getD i default).2.1 ∧ Nd B ns (l.getD i default).2.2 (ds.getD i default).2.2
 | d :: r, x :: s, 0, h, _ => h.1
 | d :: r, x :: s, i + 1, h, hi => by
  show (s.getD i default).1 = (r.getD i default).1 ∧ (s.getD i default).2.1 = (r.getD i default).2.1 ∧ Nd B ns (r.getD i default).2.2 (s.getD i default).2.2
  exact RDs.at h.2 (Nat.lt_of_succ_lt_succ hi)
 | d :: r, [], _, h, _ => h.elim
theorem ao1 (B : List (Nat × Obj)) (wn wd : Value) (mn : Int) (ns : List NdV) (rs : List RdV) (l : List r9) (a : Ex) (h : au6 B wn wd mn ns rs l a ∧ OKP l a) :
  d7 Tryd.prog 13 [.agg [wn, wd, zI mn].toArray] (B ++ []) [] (Ret (st (aao l a)) []) := by
 obtain ⟨⟨⟨R1, h1, h2⟩, ⟨R2, h3, h4⟩, h5, h6⟩, k1, k2, k3⟩ := h
 have hN : y8 wn B ns.length (ns.flatMap ndC) := ⟨R1, h1.inSl (y6 ana ns), h2⟩
 have hD : y8 wd B rs.length (rs.flatMap rdC) := ⟨R2, h3.inSl (y6 aiw rs), h4⟩
 have hl := h5.len
 have hdl := ad3 k1
 have hll := ahv l
 have hal := r8 a 0 k2
 refine (ar7 wn wd B ns rs mn a (l.map fun d => d.2.2) hN hD (fun d => d = aao l a) ?_).weak fun x h => aiq h
 unfold ah9
 refine ⟨fun c i => 0 ≤ i ∧ i ≤ rs.length ∧ c = aih (l.take i.toNat), fun _ i => (rs.length - i).toNat, ⟨Int.le_refl _, by omega, rfl⟩, ?_⟩
 rintro c i ⟨i0, i1, rfl⟩
 by_cases hi : i < (rs.length : Int)
 ·rw [if_pos (decide_eq_true hi)]
  have hil : i.toNat < l.length := by omega
  have hat := h5.at hil
  have hm := k1 _ (auq hil)
  have hw := auv hil
  have hpl := r8 (l.getD i.toNat default).2.2 0 hm.2
  have hmap := aup hil
  have htk := ad3 (l := l.take i.toNat) (fun d hd => k1 d (List.mem_of_mem_take hd))
  have hwt := ani l i.toNat
  have hst := akp hil
  rw [hmap, hat.2.1]
  simp only [List.length_append, List.length_cons, List.length_nil]
  refine ⟨⟨i0, hi⟩, by omega, by omega, ⟨i0, hi⟩, ab2 hN _ _ 0 hat.2.2 hm.2 (by omega), by omega, by omega, by omega, by unfold I64; omega, ⟨by omega, by omega, ?_⟩, by show (rs.length - (i + 1)).toNat < (rs.length - i).toNat; omega⟩
  rw [show (i + 1).toNat = i.toNat + 1 by omega, hst]
  rfl
 ·rw [if_neg (by rw [decide_eq_true_eq]; exact hi)]
  have hfull : l.take i.toNat = l := List.take_of_length_le (by omega)
  rw [hfull]
  simp only [List.length_append, List.length_cons, List.length_nil]
  exact ⟨ab2 hN _ _ 0 h6 k2 (by omega), by omega, by omega, rfl⟩
end Go.Proofs.YtifajndacnfcbaaDoor
set_option maxRecDepth 100000
namespace Go.Proofs.YtifajndacnfcbaaDoor
open Go Go.RowKit
theorem an2 : l6 Tryd.prog 8 = true := by kernel_rfl
theorem alw : l6 Tryd.prog 10 = true := by kernel_rfl
theorem ast : l6 Tryd.prog 13 = true := by kernel_rfl
def akq (text : List UInt8) (l1 : List r9) (a1 : Ex) (K : Bool → Prop) : Prop :=
 (if (!decide (([] : List UInt8) = [])) = true then
  K false
 else
  (s7 text = .ok (l1, a1)) ∧
  (∀ (qb1 : Nat) (dw1 : Value) (mv1 : Value) (ds1 : List acm) (R1 : List (Nat × Obj)) (B : List (Nat × Obj)), (afc B qb1 dw1 mv1 ds1 R1 l1 a1 ∧ ∀ x ∈ ([] : List (Nat × Obj)), x ∈ B) →
   (s7 text = .ok (l1, a1)) ∧
   (∀ (vwn1 : Value) (vwd1 : Value) (mn1 : Int) (ns1 : List NdV) (rs1 : List RdV) (Rd1 : List (Nat × Obj)) (B_1' : List (Nat × Obj)), ((au6 B_1' vwn1 vwd1 mn1 ns1 rs1 l1 a1 ∧ aaw vwd1 43 3 rs1.length (rs1.flatMap rdC) Rd1 ∧ ∀ p ∈ Rd1, p ∈ B_1') ∧ ∀ x ∈ B, x ∈ B_1') →
    (vwn1.oneCell' = true) ∧
    (vwd1.oneCell' = true) ∧
    (if (!(true == true)) = true then
     K false
    else
     (afc B_1' qb1 dw1 mv1 ds1 R1 l1 a1 ∧ OKP l1 a1) ∧
     (au6 B_1' vwn1 vwd1 mn1 ns1 rs1 l1 a1 ∧ OKP l1 a1) ∧
     K (decide (aao l1 a1 = aao l1 a1))))))
theorem aui (te : TypeId) (fre : Nat × Nat) (text : List UInt8) (l1 : List r9) (a1 : Ex) (K : Bool → Prop) (h : akq text l1 a1 K) :
  d7 Tryd.prog 4 [st text] [(0, .cells [st ([124] : List UInt8), st ([38, 45] : List UInt8), st ([62, 62] : List UInt8), st ([126] : List UInt8), st ([46] : List UInt8)].toArray te fre)] [] (fun o => (∃ (v : Bool), K v ∧ o = .ret (zB v) []) ∨ (False)) := by
 unfold akq at h
 refine c7 (n := 40) (L0 := [(0, st text)]) Tryd.func4 rfl rfl rfl rfl (fun w0 M Q hE => ?_)
 refine WC.newPool ?_
 refine a7 (fun _ hK => ?_)
 refine a6 ?_
 refine wA ?_
 refine WL.nil ?_
 refine kg (hK [(0, st text)] _ ?_)
 refine a7 (fun _ hK_1' => ?_)
 refine a7 (fun _ hK_2' => ?_)
 refine a6 ?_
 refine WL.cv ⟨_, _, _, EN.fn an2 rfl, ahe te fre, Rd.old⟩ rfl rfl rfl ?_
 refine wv (OV.not rfl) ?_
 refine wm ?_
 refine WL.cv ⟨_, _, _, EN.fn afu rfl, amf te fre, Rd.old⟩ rfl rfl rfl ?_
 refine wv (OV.neqS rfl rfl) ?_
 refine wv (OV.pickF rfl rfl) ?_
 refine WL.nil ?_
 refine kg (hK_2' [(0, st text), (13, zB (!decide (([] : List UInt8) = [])))] _ ?_)
 refine a8 (b := !decide (([] : List UInt8) = [])) rfl (fun hb => ?_) (fun hb => ?_)
 ·replace h := e6 h hb
  refine a7 (fun _ hK_3' => ?_)
  refine a6 ?_
  refine wA ?_
  refine WL.nil ?_
  refine kg (hK_3' [(2, zB false)] _ ?_)
  refine b8 ?_
  exact hE.ret [] rfl rfl (.inl ⟨_, h, rfl⟩) (d6.of1 rfl (RV.tmp rfl))
 ·replace h := d9 h hb
  refine b5 ?_
  refine kg (hK_1' [(0, st text)] _ ?_)
  refine a7 (fun _ hK_4' => ?_)
  refine a6 ?_
  refine wm ?_
  obtain ⟨o, h⟩ := h
  refine WL.callS ajk rfl (al3 te fre text ([] : List (Nat × Obj)) l1 a1 o) rfl ⟨.inr (List.mem_of_getElem? (i := 0) rfl), trivial⟩ rfl rfl (fun r H' hS => ?_) (fun c H' hS => ?_)
  ·obtain ⟨qb1, dw1, mv1, ds1, R1, B, hc, ho⟩ := hS
   cases ho
   replace h := h qb1 dw1 mv1 ds1 R1 B hc
   refine wm ?_
   refine wv (OV.extract 0 rfl rfl) ?_
   refine wv (OV.extract 1 rfl rfl) ?_
   refine WL.make (MV.alloc ac4) rfl rfl rfl (fun b => ?_)
   refine wA ?_
   refine WL.storeW (vs := [zI 0, zI 0, st []]) 0 rfl rfl rfl rfl rfl u7 rfl rfl rfl ?_
   refine WL.nil ?_
   refine kg (hK_4' [(0, st text), (3, zP qb1), (4, zP b)] _ ?_)
   refine a7 (fun _ hK_5' => ?_)
   refine a6 ?_
   refine wm ?_
   obtain ⟨o_1', h⟩ := h
   refine WL.pick (H' := [pool B, HA.blk b (.cells [zI 0, zI 0, st []].toArray 26 (0, 0))]) [1, 0] rfl rfl ?_
   refine WL.callS alw rfl (ask text B l1 a1 o_1') rfl trivial rfl rfl (fun r H' hS => ?_) (fun c H' hS => ?_)
   ·obtain ⟨vwn1, vwd1, mn1, ns1, rs1, Rd1, B_1', hc, ho⟩ := hS
    cases ho
    replace h := h vwn1 vwd1 mn1 ns1 rs1 Rd1 B_1' hc
    refine wm ?_
    refine wv (OV.extract 0 rfl rfl) ?_
    refine wv (OV.extract 1 rfl rfl) ?_
    refine wv (OV.extract 2 rfl rfl) ?_
    refine WL.make (MV.alloc agm) rfl rfl rfl (fun b_1' => ?_)
    refine WL.nilRow 69 4 ndC ?_
    refine WL.nilRow 43 3 rdC ?_
    obtain ⟨o_2', h⟩ := h
    obtain ⟨o_3', h⟩ := h
    refine WL.storeW (vs := [vwn1, vwd1, zI mn1]) 2 rfl rfl rfl rfl rfl ac7 rfl (f7 o_2' (f7 o_3' (f7 rfl y5))) rfl ?_
    refine wA ?_
    refine wA ?_
    refine WL.nil ?_
    refine kg (hK_5' [(3, zP qb1), (4, zP b), (5, zP b_1'), (6, zI 0)] _ ?_)
    refine a7 (fun _ hK_6' => ?_)
    refine a7 (fun _ hK_7' => ?_)
    refine a6 ?_
    refine wv (OV.loadR rfl (At.own 4 rfl) v7) ?_
    refine wv (OV.build rfl (cs := [zI 0, zI 0, st []]) rfl) ?_
    refine wv (OV.cast (OV.eqlF (rs := [decide ((0 : Int) = 0), decide ((0 : Int) = 0), decide (([] : List UInt8) = [])]) rfl rfl Tryd.underlying26 adg afx ⟨rfl, ad7, ⟨_, _, rfl, rfl, aab.int Tryd.underlying24⟩, ⟨rfl, b4, ⟨_, _, rfl, rfl, aab.int Tryd.underlying3⟩, ⟨rfl, c6, ⟨_, _, rfl, rfl, aab.str Tryd.underlying9⟩, trivial⟩⟩⟩) (v' := zB true) rfl) ?_
    refine wm ?_
    refine wv (OV.eql rfl rfl) ?_
    refine wv (OV.neqB rfl rfl Tryd.underlying4) ?_
    refine WL.nil ?_
    refine kg (hK_7' [(3, zP qb1), (5, zP b_1'), (6, zI 0), (30, zB (!(true == true)))] _ ?_)
    refine a8 (b := !(true == true)) rfl (fun hb => ?_) (fun hb => ?_)
    ·replace h := e6 h hb
     refine a7 (fun _ hK_8' => ?_)
     refine a6 ?_
     refine wA ?_
     refine WL.nil ?_
     refine kg (hK_8' [(2, zB false)] _ ?_)
     refine b8 ?_
     exact hE.ret [] rfl rfl (.inl ⟨_, h, rfl⟩) (d6.of1 rfl (RV.tmp rfl))
    ·replace h := d9 h hb
     refine b5 ?_
     refine kg (hK_6' [(3, zP qb1), (5, zP b_1'), (6, zI 0)] _ ?_)
     refine a7 (fun _ hK_9' => ?_)
     refine u4 [] f0 (by kernel_rfl) rfl (fun T hT => ?_)
     refine fv (fun _ => OV.move rfl) ?_
     refine fv (fun _ => OV.neq rfl rfl) ?_
     refine fv (fun _ => OV.move rfl) ?_
     refine fv (fun _ => OV.move rfl) ?_
     obtain ⟨o_4', h⟩ := h
     refine FL.cv (fun _ => ⟨_, _, _, EN.fn afu rfl, ai5 te fre B_1' qb1 dw1 mv1 ds1 R1 l1 a1 o_4', aoj.pool 3 rfl (fun _ h => h)⟩) rfl rfl (fun _ => rfl) rfl ?_
     refine fv (fun _ => OV.loadR rfl (At.own 2 rfl) v6) ?_
     obtain ⟨o_5', h⟩ := h
     refine FL.cv (fun _ => ⟨_, _, _, EN.fn ast rfl, ao1 B_1' vwn1 vwd1 mn1 ns1 rs1 l1 a1 o_5', aoj.pool 3 rfl (fun _ h => by cases h)⟩) rfl rfl (fun _ => rfl) rfl ?_
     refine fv (fun _ => OV.eqlS rfl rfl) ?_
     refine fv (fun _ => OV.pickF rfl rfl) ?_
     refine fv (fun _ => OV.assign rfl) ?_
     refine FL.weak (L' := fun _ => [(2, zB (decide (aao l1 a1 = aao l1 a1)))]) (fun _ => ⟨rfl, trivial⟩) (FL.nil (hT (fun _ => [(2, zB (decide (aao l1 a1 = aao l1 a1)))]) (fun _ => ?_)))
     refine kg (hK_9' [(2, zB (decide (aao l1 a1 = aao l1 a1)))] _ ?_)
     refine b8 ?_
     exact hE.ret [] rfl rfl (.inl ⟨_, h, rfl⟩) (d6.of1 rfl (RV.tmp rfl))
   ·obtain ⟨vwn1, vwd1, mn1, ns1, rs1, Rd1, B_1', hc, ho⟩ := hS
    cases ho
  ·obtain ⟨qb1, dw1, mv1, ds1, R1, B, hc, ho⟩ := hS
   cases ho
def ajf (text : List UInt8) (c1 : Int) (p1 : Int) (K : Bool → Prop) : Prop :=
 (if (!decide (([] : List UInt8) = [])) = true then
  K false
 else
  (s7 text = .error (c1, p1)) ∧
  (∀ (_B : List (Nat × Obj)), True →
   (s7 text = .error (c1, p1)) ∧
   (∀ (_B_1' : List (Nat × Obj)), True →
    (¬ (c1 = 0)) ∧
    (¬ (c1 = 0)) ∧
    (if (!(false == false)) = true then
     K false
    else
     (¬ (c1 = 0)) ∧
     K true))))
theorem at9 (te : TypeId) (fre : Nat × Nat) (text : List UInt8) (c1 : Int) (p1 : Int) (K : Bool → Prop) (h : ajf text c1 p1 K) :
  d7 Tryd.prog 4 [st text] [(0, .cells [st ([124] : List UInt8), st ([38, 45] : List UInt8), st ([62, 62] : List UInt8), st ([126] : List UInt8), st ([46] : List UInt8)].toArray te fre)] [] (fun o => (∃ (v : Bool), K v ∧ o = .ret (zB v) []) ∨ (False)) := by
 unfold ajf at h
 refine c7 (n := 40) (L0 := [(0, st text)]) Tryd.func4 rfl rfl rfl rfl (fun w0 M Q hE => ?_)
 refine WC.newPool ?_
 refine a7 (fun _ hK => ?_)
 refine a6 ?_
 refine wA ?_
 refine WL.nil ?_
 refine kg (hK [(0, st text)] _ ?_)
 refine a7 (fun _ hK_1' => ?_)
 refine a7 (fun _ hK_2' => ?_)
 refine a6 ?_
 refine WL.cv ⟨_, _, _, EN.fn an2 rfl, ahe te fre, Rd.old⟩ rfl rfl rfl ?_
 refine wv (OV.not rfl) ?_
 refine wm ?_
 refine WL.cv ⟨_, _, _, EN.fn afu rfl, amf te fre, Rd.old⟩ rfl rfl rfl ?_
 refine wv (OV.neqS rfl rfl) ?_
 refine wv (OV.pickF rfl rfl) ?_
 refine WL.nil ?_
 refine kg (hK_2' [(0, st text), (13, zB (!decide (([] : List UInt8) = [])))] _ ?_)
 refine a8 (b := !decide (([] : List UInt8) = [])) rfl (fun hb => ?_) (fun hb => ?_)
 ·replace h := e6 h hb
  refine a7 (fun _ hK_3' => ?_)
  refine a6 ?_
  refine wA ?_
  refine WL.nil ?_
  refine kg (hK_3' [(2, zB false)] _ ?_)
  refine b8 ?_
  exact hE.ret [] rfl rfl (.inl ⟨_, h, rfl⟩) (d6.of1 rfl (RV.tmp rfl))
 ·replace h := d9 h hb
  refine b5 ?_
  refine kg (hK_1' [(0, st text)] _ ?_)
  refine a7 (fun _ hK_4' => ?_)
  refine a6 ?_
  refine wm ?_
  obtain ⟨o, h⟩ := h
  refine WL.callS ajk rfl (aqw te fre text ([] : List (Nat × Obj)) c1 p1 o) rfl ⟨.inr (List.mem_of_getElem? (i := 0) rfl), trivial⟩ rfl rfl (fun r H' hS => ?_) (fun c H' hS => ?_)
  ·obtain ⟨B, hc, ho⟩ := hS
   cases ho
   replace h := h B hc
   refine wm ?_
   refine wv (OV.extract 0 rfl rfl) ?_
   refine wv (OV.extract 1 rfl rfl) ?_
   refine WL.make (MV.alloc ac4) rfl rfl rfl (fun b => ?_)
   refine wA ?_
   refine WL.storeW (vs := [zI c1, zI p1, st []]) 0 rfl rfl rfl rfl rfl u7 rfl rfl rfl ?_
   refine WL.nil ?_
   refine kg (hK_4' [(0, st text), (3, Value.pointer none), (4, zP b)] _ ?_)
   refine a7 (fun _ hK_5' => ?_)
   refine a6 ?_
   refine wm ?_
   obtain ⟨o_1', h⟩ := h
   refine WL.pick (H' := [pool B, HA.blk b (.cells [zI c1, zI p1, st []].toArray 26 (0, 0))]) [1, 0] rfl rfl ?_
   refine WL.callS alw rfl (apq text B c1 p1 o_1') rfl trivial rfl rfl (fun r H' hS => ?_) (fun c H' hS => ?_)
   ·obtain ⟨B_1', hc, ho⟩ := hS
    cases ho
    replace h := h B_1' hc
    refine wm ?_
    refine wv (OV.extract 0 rfl rfl) ?_
    refine wv (OV.extract 1 rfl rfl) ?_
    refine wv (OV.extract 2 rfl rfl) ?_
    refine WL.make (MV.alloc agm) rfl rfl rfl (fun b_1' => ?_)
    refine WL.nilRow 69 4 ndC ?_
    refine WL.nilRow 43 3 rdC ?_
    refine WL.storeW (vs := [am2, am2, zI 0]) 2 rfl rfl rfl rfl rfl ac7 rfl rfl rfl ?_
    refine wA ?_
    refine wA ?_
    refine WL.nil ?_
    refine kg (hK_5' [(3, Value.pointer none), (4, zP b), (5, zP b_1'), (6, zI c1)] _ ?_)
    refine a7 (fun _ hK_6' => ?_)
    refine a7 (fun _ hK_7' => ?_)
    refine a6 ?_
    refine wv (OV.loadR rfl (At.own 4 rfl) v7) ?_
    refine wv (OV.build rfl (cs := [zI 0, zI 0, st []]) rfl) ?_
    obtain ⟨o_2', h⟩ := h
    refine wv (OV.cast (OV.eqlF (rs := [decide (c1 = 0), decide (p1 = 0), decide (([] : List UInt8) = [])]) rfl rfl Tryd.underlying26 adg afx ⟨rfl, ad7, ⟨_, _, rfl, rfl, aab.int Tryd.underlying24⟩, ⟨rfl, b4, ⟨_, _, rfl, rfl, aab.int Tryd.underlying3⟩, ⟨rfl, c6, ⟨_, _, rfl, rfl, aab.str Tryd.underlying9⟩, trivial⟩⟩⟩) (v' := zB false) (by rw [decide_eq_false o_2']; rfl)) ?_
    refine wm ?_
    obtain ⟨o_3', h⟩ := h
    refine wv (OV.cast (OV.eql rfl rfl) (v' := zB false) (by rw [decide_eq_false o_3'])) ?_
    refine wv (OV.neqB rfl rfl Tryd.underlying4) ?_
    refine WL.nil ?_
    refine kg (hK_7' [(3, Value.pointer none), (5, zP b_1'), (6, zI c1), (30, zB (!(false == false)))] _ ?_)
    refine a8 (b := !(false == false)) rfl (fun hb => ?_) (fun hb => ?_)
    ·replace h := e6 h hb
     refine a7 (fun _ hK_8' => ?_)
     refine a6 ?_
     refine wA ?_
     refine WL.nil ?_
     refine kg (hK_8' [(2, zB false)] _ ?_)
     refine b8 ?_
     exact hE.ret [] rfl rfl (.inl ⟨_, h, rfl⟩) (d6.of1 rfl (RV.tmp rfl))
    ·replace h := d9 h hb
     refine b5 ?_
     refine kg (hK_6' [(3, Value.pointer none), (5, zP b_1'), (6, zI c1)] _ ?_)
     refine a7 (fun _ hK_9' => ?_)
     refine u4 [] f0 (by kernel_rfl) rfl (fun T hT => ?_)
     refine fv (fun _ => OV.move rfl) ?_
     obtain ⟨o_4', h⟩ := h
     refine fv (fun _ => OV.cast (OV.neq rfl rfl) (v' := zB true) (by rw [decide_eq_false o_4']; rfl)) ?_
     refine fv (fun _ => OV.move rfl) ?_
     refine FL.skip rfl (fun _ => rfl) rfl rfl ?_
     refine FL.skip rfl (fun _ => rfl) rfl rfl ?_
     refine FL.skip rfl (fun _ => rfl) rfl rfl ?_
     refine FL.skip rfl (fun _ => rfl) rfl rfl ?_
     refine FL.skip rfl (fun _ => rfl) rfl rfl ?_
     refine fv (fun _ => OV.pickT rfl rfl) ?_
     refine fv (fun _ => OV.assign rfl) ?_
     refine FL.weak (L' := fun _ => [(2, zB true)]) (fun _ => ⟨rfl, trivial⟩) (FL.nil (hT (fun _ => [(2, zB true)]) (fun _ => ?_)))
     refine kg (hK_9' [(2, zB true)] _ ?_)
     refine b8 ?_
     exact hE.ret [] rfl rfl (.inl ⟨_, h, rfl⟩) (d6.of1 rfl (RV.tmp rfl))
   ·obtain ⟨B_1', hc, ho⟩ := hS
    cases ho
  ·obtain ⟨B, hc, ho⟩ := hS
   cases ho
theorem as9 (te : TypeId) (fre : Nat × Nat) (t : List UInt8) : d7 Tryd.prog 4 [st t] (ac5 te fre) [] (Ret (.bool true) []) := by
 have out : ∀ {x : Out}, (∃ v : Bool, v = true ∧ x = .ret (.bool v) []) ∨ False → x = .ret (.bool true) [] := by
  rintro x (⟨v, rfl, rfl⟩ | h)
  ·rfl
  ·exact h.elim
 cases hp : s7 t with
 | error x =>
  obtain ⟨c, p⟩ := x
  have hc : ¬ c = 0 := by
   unfold s7 at hp
   split at hp
   ·exact ake hp
   ·rename_i h0; cases hp; exact h0
  refine (at9 te fre t c p (fun b => b = true) ?_).weak fun x h => out h
  unfold ajf
  rw [if_neg (by decide)]
  refine ⟨hp, fun _ _ => ⟨hp, fun _ _ => ⟨hc, hc, ?_⟩⟩⟩
  rw [if_neg (by decide)]
  exact ⟨hc, rfl⟩
 | ok x =>
  obtain ⟨l, a⟩ := x
  have hw := ajo hp
  refine (aui te fre t l a (fun b => b = true) ?_).weak fun x h => out h
  unfold akq
  rw [if_neg (by decide)]
  refine ⟨hp, fun b1 dw1 mv1 ds1 R1 B ⟨g1, _⟩ => ⟨hp, fun wn wd mn ns rs Rd B2 ⟨⟨r1, r2, r3⟩, gm⟩ => ⟨?_, r2.one, ?_⟩⟩⟩
  ·obtain ⟨R, h1, _⟩ := r1.1
   exact h1.one
  ·rw [if_neg (by decide)]
   exact ⟨⟨g1.more gm, hw⟩, ⟨r1, hw⟩, decide_eq_true rfl⟩
end Go.Proofs.YtifajndacnfcbaaDoor
namespace Go.Proofs.YtifajndacnfcbaaDoor
open Go Go.ChangeShapes Go.WideShapes Go.ChangeAt Go.RowKit
theorem aib (os : Os) : laidMet Tryd.prog Rows.syntaxPrintsRow.laid ((ahr os).forCall (fun _ _ => 0) ⟨#[], #[.string ByteArray.empty], []⟩).memory :=
 laidMet_of_run' 8 (by kernel_rfl) (by kernel_rfl)
theorem agw (os : Os) {H : Type} (enc : TypeId × Value → H) : ∃ places, DataW.whole enc Tryd.prog ((ahr os).forCall (fun _ _ => 0) ⟨#[], #[.string ByteArray.empty], []⟩).memory Tryd.f4.params.toList Rows.syntaxPrintsSpec.vars false (#[.string ByteArray.empty] : Array Value).toList 8 = some ([.lit (.string [])], [], places) :=
 ⟨[], by kernel_rfl⟩
set_option maxRecDepth 100000 in
theorem afy (os : Os) (started : os.Started) (H : Type) (enc : TypeId × Value → H) (F : Stop.Interp) :
  ReturnsInHanded {} Tryd.checked os 4 .any ((OpenSpec.ofChange Rows.syntaxPrintsSpec).preRow enc Tryd.prog Tryd.f4 Rows.syntaxPrintsRow.domain false Rows.syntaxPrintsRow.laid) (((OpenSpec.ofChange Rows.syntaxPrintsSpec).at F).post enc Tryd.prog Tryd.f4 false true false false) := by
 obtain ⟨places, hx⟩ := agw os enc
 refine returnsInHanded_of_row (C := Tryd.checked) (s := OpenSpec.ofChange Rows.syntaxPrintsSpec) at7 started (by kernel_rfl) Tryd.func4
  (witness_row_atRef (enc := enc) (C := Tryd.checked) false (ahr os) #[.string ByteArray.empty] rfl (by kernel_rfl) (by kernel_rfl) (by kernel_rfl)
   (OpenSpec.preRow_of_cond 8 hx (by kernel_rfl) (fun k hk => by cases hk) (by kernel_rfl) (aib os))) ?_
 intro W base args ds gs before hval0 hW _ hcond hwt0 hL _ _
 have hval : ∀ (j : Nat) t v, Tryd.f4.params[j]? = some t → args[j]? = some v → Value.okWide Tryd.prog W .any base t v := hval0
 have hW' : DataW.Whole enc Tryd.prog Tryd.f4.params.toList Rows.syntaxPrintsSpec.vars false W args.toList ds gs before := hW
 obtain ⟨p, q, hA0, hV, rfl, _, _⟩ := hW'
 have hA : DataW.TrodAll enc Tryd.prog W 0 (fun _ => true) true Tryd.f4.params.toList args.toList ds p := hA0
 have hwt : (DataW.weightsEach Tryd.prog (Tryd.f4.params.toList ++ Rows.syntaxPrintsSpec.plain.varTypes Tryd.prog) (ds ++ gs)).all (· ≤ reachBytes) = true := hwt0
 rw [Tryd.params4] at hA hval hwt
 obtain ⟨v0, d0, rfl, rfl, h0⟩ := trodAll_one hA
 obtain ⟨rfl, rfl⟩ := trodVars_none hV
 obtain ⟨a0, rfl, e0, _, _⟩ := ChangeMaps.open_string Tryd.underlying9 (hval 0 _ v0 rfl rfl) h0
 have y0 : a0.data.toList.length ≤ reachBytes := sized_string hwt (j := 0) (t := 9) rfl (by rw [e0]; rfl)
 have r0 : a0.data.toList.length ≤ 140737488351232 := y0
 refine (ap4 hL (fun te fre => as9 te fre a0.data.toList)).mono fun e W' ⟨he, hb⟩ => ?_
 subst he
 exact ⟨_, rfl, avm aub rfl Tryd.underlying4 (by kernel_rfl) rfl hW rfl hb⟩
theorem ag6 : Rows.SyntaxPrintsSaid :=
 OpenClaim.holds_of_cond 4 Tryd.f4 rfl rfl rfl rfl rfl rfl rfl ⟨rfl, rfl, rfl, rfl, rfl⟩ rfl rfl rfl rfl rfl (by kernel_rfl) Tryd.func4 (by kernel_rfl)
  (of_decide_eq_true (by kernel_rfl)) (by unfold Func.isWrapper; rw [if_neg (of_decide_eq_false (by kernel_rfl))]; exact ⟨rfl, rfl⟩)
  (fun os started H enc _ F => by rw [OpenClaim.pre_eq_preRow]; exact afy os started H enc F)
theorem syntaxPrints_card_holds : Rows.SyntaxPrintsCardSaid :=
 Claim7.holds_tied_plain_at .later [] _ _ _ _ ag6 (fun _ h => by cases h) (by kernel_rfl) (fun _ h => by cases h) syntaxPrints_row_tie rfl ⟨rfl, rfl⟩ (by kernel_rfl) rfl
  (fun f fn hf hfn => by
   obtain rfl : f = 4 := Option.some.inj ((show Tryd.prog.funcNamed "loupe/loupelaw13.SyntaxPrints" = some 4 by kernel_rfl).symm.trans hf) |>.symm
   obtain rfl : fn = Tryd.f4 := (Option.some.inj (Tryd.func4.symm.trans hfn)).symm
   refine ⟨by kernel_rfl, fun j t ht => ?_⟩
   rw [Tryd.params4] at ht
   have h3 : t = 9 := by simpa using Array.mem_of_getElem? ht
   rcases h3 with rfl
   ·exact (show Tryd.prog.wantsStandIn 9 = false by kernel_rfl))
  (by kernel_rfl)
end Go.Proofs.YtifajndacnfcbaaDoor
