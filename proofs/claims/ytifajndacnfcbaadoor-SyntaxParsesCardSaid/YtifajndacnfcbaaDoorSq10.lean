/-
  Merged: SyNd, SyNe.
-/
import Derived.Test.YtifajndacnfcbaaDoorSq9
set_option maxRecDepth 100000
namespace Go.Proofs.YtifajndacnfcbaaDoor
open Go Go.RowKit
theorem ahe : ab0 Tryd.prog 32 = some [Value.slice none 0 0, Value.slice none 0 0, zI 0] := by kernel_rfl
theorem atf : k9 Tryd.prog 18 = true := by kernel_rfl
theorem ads : o8 Tryd.prog 32 3 = true := by kernel_rfl
theorem aai : RowT Tryd.prog 32 3 := ⟨by kernel_rfl, by kernel_rfl⟩
theorem apy : ab0 Tryd.prog 43 = some [zI 0, st [], zI 0] := by kernel_rfl
theorem aqx : o8 Tryd.prog 43 3 = true := by kernel_rfl
theorem agk : f6 Tryd.prog 43 1 = some 1 := by kernel_rfl
theorem agu : f6 Tryd.prog 43 2 = some 2 := by kernel_rfl
theorem y6 : f6 Tryd.prog 32 1 = some 1 := by kernel_rfl
theorem acg : aal Tryd.prog 30 = true := by kernel_rfl
theorem asr : RowT Tryd.prog 43 3 := ⟨by kernel_rfl, by kernel_rfl⟩
theorem adx : slB Tryd.prog 30 43 3 = true := by kernel_rfl
theorem aqv : afi Tryd.prog 43 = some ([zI 0, st [], zI 0], 3, 32) := by kernel_rfl
theorem ap8 : o8 Tryd.prog 30 1 = true := by kernel_rfl
theorem ag8 : f6 Tryd.prog 32 2 = some 2 := by kernel_rfl
def aiz (text : List UInt8) (B : List (Nat × Obj)) (K : Value → Value → Int → Int → Int → (List (Nat × Obj)) → Prop) : Prop :=
 (
  (if (!decide ((b9 text).2.1 = 0)) = true then
   ∀ (R : List (Nat × Obj)), q8 (Value.slice none 0 0) 69 4 ([] : List NdV).length (([] : List NdV).flatMap ndC) R → ∀ (R_1' : List (Nat × Obj)), q8 (Value.slice none 0 0) 43 3 ([] : List RdV).length (([] : List RdV).flatMap rdC) R_1' → K (Value.slice none 0 0) (Value.slice none 0 0) 0 ((b9 text).2.1) ((b9 text).2.2) (R_1' ++ (R ++ B))
  else
   ∃ (J0 : Int → Int → Int → Int → (List NdV) → (List (Nat × Obj)) → (List RdV) → Prop),
    (∀ (c_1_2' : Int) (c_2_2' : Int) (c_3_2' : Int) (c_4_2' : Int) (l_4' : List NdV) (c_2' : List (Nat × Obj)) (l_5' : List RdV), J0 c_1_2' c_2_2' c_3_2' c_4_2' l_4' c_2' l_5' →
     (aic ((b9 text).1) c_1_2' c_3_2' (0 : Int)) ∧
     (RP ((b9 text).1) c_1_2' c_2_2' c_3_2' l_4' ∧ 0 ≤ (0 : Int) ∧ (0 : Int) ≤ 5) ∧
     (∀ (i_3' : Int) (k_9' : Int) (op_9' : Int) (er_9' : Int) (ea_9' : Int) (nl_3' : List NdV) (B_4' : List (Nat × Obj)), aad (sE ((b9 text).1) (0 : Int).toNat (c_1_2'.toNat, c_2_2')) ((b9 text).1) c_2' l_4' c_1_2' c_2_2' c_3_2' c_4_2' i_3' k_9' op_9' er_9' ea_9' nl_3' B_4' →
      ∃ (J0_1' : Int → Int → Prop),
       (∀ (c_3_3' : Int) (c_4_3' : Int), J0_1' c_3_3' c_4_3' →
        (if (!decide (c_3_3' = 0)) = true then
         K (Value.slice none 0 0) (Value.slice none 0 0) 0 c_3_3' c_4_3' B_4'
        else
         ∀ (w_13' : Value) (R_2' : List (Nat × Obj)), q8 w_13' 69 4 nl_3'.length (nl_3'.flatMap ndC) R_2' → ∀ (w_12' : Value) (R_3' : List (Nat × Obj)), q8 w_12' 43 3 l_5'.length (l_5'.flatMap rdC) R_3' → K w_13' w_12' i_3' 0 0 (R_3' ++ (R_2' ++ B_4')))) ∧
       ((decide (er_9' = 0)) = true → (0 ≤ k_9' ∧ k_9' < (((b9 text).1).length : Int))) ∧
       (if ((decide (er_9' = 0)) && (!decide ((((b9 text).1).getD (k_9').toNat default).1 = 0))) = true then
        (0 ≤ k_9' ∧ k_9' < (((b9 text).1).length : Int)) ∧
        J0_1' (acy er_9' (60 : Int)) (acw ((b9 text).1) k_9' er_9' ea_9')
       else
        J0_1' er_9' ea_9'))) ∧
    ∃ (Inv_1' : (List RdV) → (List NdV) → Int → Int → Int → Int → (List (Nat × Obj)) → Prop) (mu_1' : (List RdV) → (List NdV) → Int → Int → Int → Int → (List (Nat × Obj)) → Nat),
     Inv_1' [] [] 0 0 0 0 B ∧ ∀ (l_8' : List RdV) (l_9' : List NdV) (c_1_4' : Int) (c_2_4' : Int) (c_3_5' : Int) (c_4_5' : Int) (c_4' : List (Nat × Obj)), Inv_1' l_8' l_9' c_1_4' c_2_4' c_3_5' c_4_5' c_4' →
      ((decide (c_3_5' = 0)) = true → (0 ≤ c_1_4' ∧ c_1_4' < (((b9 text).1).length : Int))) ∧
      (((decide (c_3_5' = 0)) && (decide ((((b9 text).1).getD (c_1_4').toNat default).1 = 1))) = true → (0 ≤ c_1_4' ∧ c_1_4' < (((b9 text).1).length : Int))) ∧
      (if (((decide (c_3_5' = 0)) && (decide ((((b9 text).1).getD (c_1_4').toNat default).1 = 1))) && (decide ((((b9 text).1).getD (c_1_4').toNat default).2.2 = ([108, 101, 116] : List UInt8)))) = true then
       (I64 (c_1_4' + 1)) ∧
       (0 ≤ (c_1_4' + 1) ∧ (c_1_4' + 1) < (((b9 text).1).length : Int)) ∧
       (0 ≤ (c_1_4' + 1) ∧ (c_1_4' + 1) < (((b9 text).1).length : Int)) ∧
       (0 ≤ (c_1_4' + 1) ∧ (c_1_4' + 1) < (((b9 text).1).length : Int)) ∧
       (if ((!decide ((((b9 text).1).getD ((c_1_4' + 1)).toNat default).1 = 1)) || (!decide (d6 ((((b9 text).1).getD ((c_1_4' + 1)).toNat default).2.2) = 0))) = true then
        (0 ≤ (c_1_4' + 1) ∧ (c_1_4' + 1) < (((b9 text).1).length : Int)) ∧
        J0 (c_1_4' + 1) c_2_4' (acy c_3_5' (60 : Int)) (acw ((b9 text).1) (c_1_4' + 1) c_3_5' c_4_5') l_9' c_4' l_8'
       else
        (I64 ((c_1_4' + 1) + 1)) ∧
        ((0 ≤ ((c_1_4' + 1) + 1) ∧ ((c_1_4' + 1) + 1) < (((b9 text).1).length : Int)) ∧ (0 ≤ c_2_4' ∧ c_2_4' ≤ 64) ∧ ((b9 text).1).length ≤ 10000) ∧
        (∀ (k_16' : Int) (op_16' : Int) (er_16' : Int) (ea_16' : Int), abh ((b9 text).1) ((c_1_4' + 1) + 1) c_2_4' c_3_5' c_4_5' ([61] : List UInt8) = (k_16', op_16', er_16', ea_16') →
         (aic ((b9 text).1) k_16' er_16' (0 : Int)) ∧
         (RP ((b9 text).1) k_16' op_16' er_16' l_9' ∧ 0 ≤ (0 : Int) ∧ (0 : Int) ≤ 5) ∧
         (∀ (i_6' : Int) (k_17' : Int) (op_17' : Int) (er_17' : Int) (ea_17' : Int) (nl_6' : List NdV) (B_7' : List (Nat × Obj)), aad (sE ((b9 text).1) (0 : Int).toNat (k_16'.toNat, op_16')) ((b9 text).1) c_4' l_9' k_16' op_16' er_16' ea_16' i_6' k_17' op_17' er_17' ea_17' nl_6' B_7' →
          ((0 ≤ k_17' ∧ k_17' < (((b9 text).1).length : Int)) ∧ (0 ≤ op_17' ∧ op_17' ≤ 64) ∧ ((b9 text).1).length ≤ 10000) ∧
          (∀ (k_18' : Int) (op_18' : Int) (er_18' : Int) (ea_18' : Int), abh ((b9 text).1) k_17' op_17' er_17' ea_17' ([59] : List UInt8) = (k_18', op_18', er_18', ea_18') →
           (((l_8'.length + 1) + (l_8'.length + 1) / 4 + 192) * 32 ≤ 281474976710656 ∧ l_8'.length + 1 ≤ 9223372036854775807) ∧
           Inv_1' (l_8' ++ [((((((b9 text).1).getD ((c_1_4' + 1)).toNat default).2.1), (((b9 text).1).getD ((c_1_4' + 1)).toNat default).2.2, i_6') : RdV)]) nl_6' k_18' op_18' er_18' ea_18' B_7' ∧ mu_1' (l_8' ++ [((((((b9 text).1).getD ((c_1_4' + 1)).toNat default).2.1), (((b9 text).1).getD ((c_1_4' + 1)).toNat default).2.2, i_6') : RdV)]) nl_6' k_18' op_18' er_18' ea_18' B_7' < mu_1' l_8' l_9' c_1_4' c_2_4' c_3_5' c_4_5' c_4'))))
      else
       J0 c_1_4' c_2_4' c_3_5' c_4_5' l_9' c_4' l_8')))
theorem atw  (text : List UInt8) (B : List (Nat × Obj)) (K : Value → Value → Int → Int → Int → (List (Nat × Obj)) → Prop) (h : aiz text B K) :
  d9 Tryd.prog 10 [st text] [] [pool B] (fun o => (∃ (v : Value) (v_1' : Value) (v_2' : Int) (v_3' : Int) (v_4' : Int) (D : List (Nat × Obj)), K v v_1' v_2' v_3' v_4' D ∧ o = .ret (Value.tuple #[Value.agg [v, v_1', zI v_2'].toArray, zI v_3', zI v_4']) [pool D]) ∨ (False)) := by
 unfold aiz at h
 refine c8 (n := 178) (L0 := [(0, st text)]) Tryd.func10 rfl rfl rfl rfl (fun w0 M Q hE => ?_)
 refine a7 (fun _ hK => ?_)
 refine a6 ?_
 refine WL.make (MV.alloc ahe) rfl rfl rfl (fun b => ?_)
 refine WL.nilRow 69 4 ndC ?_
 refine WL.nilRow 43 3 rdC ?_
 refine wA ?_
 refine wA ?_
 refine WL.nil ?_
 refine kg (hK [(0, st text), (2, zP b)] _ ?_)
 refine a7 (fun _ hK_1' => ?_)
 refine a6 ?_
 refine wm ?_
 refine WL.callS atf rfl (anl text) rfl trivial rfl rfl (fun r H' hS => ?_) (fun c H' hS => ?_)
 ·obtain ⟨w, ho⟩ := hS
  cases ho
  refine wm ?_
  refine wv (OV.extract 0 rfl rfl) ?_
  refine wv (OV.extract 1 rfl rfl) ?_
  refine wv (OV.extract 2 rfl rfl) ?_
  refine wA ?_
  refine wA ?_
  refine wA ?_
  refine WL.nil ?_
  refine kg (hK_1' [(2, zP b), (5, w), (6, zI ((b9 text).2.1)), (7, zI ((b9 text).2.2))] _ ?_)
  refine a7 (fun _ hK_2' => ?_)
  refine a7 (fun _ hK_3' => ?_)
  refine a6 ?_
  refine wm ?_
  refine wv (OV.neq rfl rfl) ?_
  refine WL.nil ?_
  refine kg (hK_3' [(2, zP b), (5, w), (6, zI ((b9 text).2.1)), (7, zI ((b9 text).2.2)), (17, zB (!decide ((b9 text).2.1 = 0)))] _ ?_)
  refine b5 (b := !decide ((b9 text).2.1 = 0)) rfl (fun hb => ?_) (fun hb => ?_)
  ·replace h := e8 h hb
   refine a7 (fun _ hK_4' => ?_)
   refine a6 ?_
   refine wv (OV.build rfl (cs := [Value.slice none 0 0, Value.slice none 0 0, zI 0]) rfl) ?_
   refine wm ?_
   refine wm ?_
   refine WL.storeW (vs := [Value.slice none 0 0, Value.slice none 0 0, zI 0]) 3 rfl rfl rfl rfl rfl ads rfl rfl rfl ?_
   refine WL.nilRow 69 4 ndC ?_
   refine WL.nilRow 43 3 rdC ?_
   refine wA ?_
   refine wA ?_
   refine WL.nil ?_
   refine kg (hK_4' [(2, zP b), (3, zI ((b9 text).2.1)), (4, zI ((b9 text).2.2))] _ ?_)
   refine b8 ?_
   refine QX.pick (H' := [HA.row (Value.slice none 0 0) 69 4 ([] : List NdV).length (([] : List NdV).flatMap ndC), pool B, HA.row (Value.slice none 0 0) 43 3 ([] : List RdV).length (([] : List RdV).flatMap rdC), HA.row w 64 3 ((b9 text).1).length (((b9 text).1).flatMap e6), HA.row (Value.slice none 0 0) 43 3 ([] : List RdV).length (([] : List RdV).flatMap rdC), HA.row (Value.slice none 0 0) 69 4 ([] : List NdV).length (([] : List NdV).flatMap ndC), HA.blk b (.cells [Value.slice none 0 0, Value.slice none 0 0, zI 0].toArray 32 (0, 0))]) [1, 6, 0, 2, 3, 4, 5] rfl rfl ?_
   refine QX.absorbRow0 (fun R hl => ?_)
   refine QX.pick (H' := [HA.row (Value.slice none 0 0) 43 3 ([] : List RdV).length (([] : List RdV).flatMap rdC), pool (R ++ B), HA.row w 64 3 ((b9 text).1).length (((b9 text).1).flatMap e6), HA.row (Value.slice none 0 0) 43 3 ([] : List RdV).length (([] : List RdV).flatMap rdC), HA.row (Value.slice none 0 0) 69 4 ([] : List NdV).length (([] : List NdV).flatMap ndC), HA.blk b (.cells [Value.slice none 0 0, Value.slice none 0 0, zI 0].toArray 32 (0, 0))]) [1, 0, 2, 3, 4, 5] rfl rfl ?_
   refine QX.absorbRow0 (fun R_1' hl_1' => ?_)
   exact hE.ret [0] rfl rfl (.inl ⟨_, _, _, _, _, _, (h R hl R_1' hl_1'), rfl⟩) (d7.of3 rfl (RV.row rfl (At.own 4 rfl) aai) (RV.tmp rfl) (RV.tmp rfl))
  ·replace h := e9 h hb
   refine b6 ?_
   refine kg (hK_2' [(2, zP b), (5, w)] _ ?_)
   refine a7 (fun _ hK_5' => ?_)
   refine a6 ?_
   refine wm ?_
   refine WL.rowOne 0 rfl (fun hone0 => ?_)
   refine wv (OV.buildC (qs := [(0, [w])]) (cs := [w, zI 0, zI 0, zI 0, zI 0, Value.slice none 0 0, Value.slice none 0 0, zI 0]) rfl ⟨rfl, aaf hone0, trivial⟩ rfl) ?_
   refine WL.make (MV.box (cs := [w, zI 0, zI 0, zI 0, zI 0, Value.slice none 0 0, Value.slice none 0 0, zI 0]) rfl rfl) rfl rfl rfl (fun b_1' => ?_)
   refine WL.nilRow 69 4 ndC ?_
   refine WL.nilRow 43 3 rdC ?_
   refine wA ?_
   refine WL.nil ?_
   refine kg (hK_5' [(2, zP b), (8, zP b_1')] _ ?_)
   obtain ⟨J0, hJ, h⟩ := h
   refine m5 (X := Int × Int × Int × Int × Value × (List NdV) × (List (Nat × Obj)) × Value × (List RdV)) (fun σ => J0 σ.1 σ.2.1 σ.2.2.1 σ.2.2.2.1 σ.2.2.2.2.2.1 σ.2.2.2.2.2.2.1 σ.2.2.2.2.2.2.2.2) (fun σ => [(2, zP b), (8, zP b_1')]) (fun σ => [HA.blk b_1' (.cells [w, zI σ.1, zI σ.2.1, zI σ.2.2.1, zI σ.2.2.2.1, σ.2.2.2.2.1, σ.2.2.2.2.2.2.2.1, zI 0].toArray 62 (0, 0)), HA.row w 64 3 ((b9 text).1).length (((b9 text).1).flatMap e6), HA.row σ.2.2.2.2.1 69 4 σ.2.2.2.2.2.1.length (σ.2.2.2.2.2.1.flatMap ndC), pool σ.2.2.2.2.2.2.1, HA.row σ.2.2.2.2.2.2.2.1 43 3 σ.2.2.2.2.2.2.2.2.length (σ.2.2.2.2.2.2.2.2.flatMap rdC), HA.row (Value.slice none 0 0) 43 3 ([] : List RdV).length (([] : List RdV).flatMap rdC), HA.row (Value.slice none 0 0) 69 4 ([] : List NdV).length (([] : List NdV).flatMap ndC), HA.blk b (.cells [Value.slice none 0 0, Value.slice none 0 0, zI 0].toArray 32 (0, 0))]) ?_ (fun K0_48' hK_48' => ?_)
   ·rintro ⟨c_1_2', c_2_2', c_3_2', c_4_2', w_11', l_4', c_2', w_12', l_5'⟩ hj
    replace h := hJ c_1_2' c_2_2' c_3_2' c_4_2' l_4' c_2' l_5' hj
    show WC _ _ _ _ [(2, zP b), (8, zP b_1')] [HA.blk b_1' (.cells [w, zI c_1_2', zI c_2_2', zI c_3_2', zI c_4_2', w_11', w_12', zI 0].toArray 62 (0, 0)), HA.row w 64 3 ((b9 text).1).length (((b9 text).1).flatMap e6), HA.row w_11' 69 4 l_4'.length (l_4'.flatMap ndC), pool c_2', HA.row w_12' 43 3 l_5'.length (l_5'.flatMap rdC), HA.row (Value.slice none 0 0) 43 3 ([] : List RdV).length (([] : List RdV).flatMap rdC), HA.row (Value.slice none 0 0) 69 4 ([] : List NdV).length (([] : List NdV).flatMap ndC), HA.blk b (.cells [Value.slice none 0 0, Value.slice none 0 0, zI 0].toArray 32 (0, 0))]
    refine a7 (fun _ hK_49' => ?_)
    refine a6 ?_
    refine wm ?_
    refine wm ?_
    obtain ⟨o_45', h⟩ := h
    obtain ⟨o_46', h⟩ := h
    refine WL.callS adb rfl (o_45' b_1' w w_11' l_4' c_2_2' c_4_2' w_12' (0 : Int) c_2' o_46') rfl trivial rfl rfl (fun r H' hS => ?_) (fun c H' hS => ?_)
    ·obtain ⟨w_13', i_3', k_9', op_9', er_9', ea_9', nl_3', B_4', hc, ho⟩ := hS
     cases ho
     replace h := h i_3' k_9' op_9' er_9' ea_9' nl_3' B_4' hc
     refine wv (OV.nilCheck rfl) ?_
     refine wv (OV.fieldAddr0 rfl y8) ?_
     refine wv (OV.fieldAddr rfl ag8) ?_
     refine WL.store (vs := [zI i_3']) (cs' := [w, zI k_9', zI op_9', zI er_9', zI ea_9', w_13', w_12', zI i_3']) 0 rfl rfl rfl rfl f9 (Nat.le_of_ble_eq_true rfl) rfl rfl rfl ?_
     refine WL.nil ?_
     refine kg (hK_49' [(2, zP b), (8, zP b_1')] _ ?_)
     obtain ⟨J0_1', hJ_1', h⟩ := h
     refine m5 (X := Int × Int) (fun σ => J0_1' σ.1 σ.2) (fun σ => [(2, zP b), (8, zP b_1')]) (fun σ => [HA.blk b_1' (.cells [w, zI k_9', zI op_9', zI σ.1, zI σ.2, w_13', w_12', zI i_3'].toArray 62 (0, 0)), HA.row w 64 3 ((b9 text).1).length (((b9 text).1).flatMap e6), HA.row w_13' 69 4 nl_3'.length (nl_3'.flatMap ndC), pool B_4', HA.row w_12' 43 3 l_5'.length (l_5'.flatMap rdC), HA.row (Value.slice none 0 0) 43 3 ([] : List RdV).length (([] : List RdV).flatMap rdC), HA.row (Value.slice none 0 0) 69 4 ([] : List NdV).length (([] : List NdV).flatMap ndC), HA.blk b (.cells [Value.slice none 0 0, Value.slice none 0 0, zI 0].toArray 32 (0, 0))]) ?_ (fun K0_52' hK_52' => ?_)
     ·rintro ⟨c_3_3', c_4_3'⟩ hj
      replace h := hJ_1' c_3_3' c_4_3' hj
      show WC _ _ _ _ [(2, zP b), (8, zP b_1')] [HA.blk b_1' (.cells [w, zI k_9', zI op_9', zI c_3_3', zI c_4_3', w_13', w_12', zI i_3'].toArray 62 (0, 0)), HA.row w 64 3 ((b9 text).1).length (((b9 text).1).flatMap e6), HA.row w_13' 69 4 nl_3'.length (nl_3'.flatMap ndC), pool B_4', HA.row w_12' 43 3 l_5'.length (l_5'.flatMap rdC), HA.row (Value.slice none 0 0) 43 3 ([] : List RdV).length (([] : List RdV).flatMap rdC), HA.row (Value.slice none 0 0) 69 4 ([] : List NdV).length (([] : List NdV).flatMap ndC), HA.blk b (.cells [Value.slice none 0 0, Value.slice none 0 0, zI 0].toArray 32 (0, 0))]
      refine a7 (fun _ hK_53' => ?_)
      refine a7 (fun _ hK_54' => ?_)
      refine a6 ?_
      refine wm ?_
      refine wv (OV.nilCheck rfl) ?_
      refine wv (OV.fieldAddr0 rfl q9) ?_
      refine wv (OV.load rfl (At.own 0 rfl) rfl a8) ?_
      refine wv (OV.neq rfl rfl) ?_
      refine WL.nil ?_
      refine kg (hK_54' [(2, zP b), (8, zP b_1'), (164, zB (!decide (c_3_3' = 0)))] _ ?_)
      refine b5 (b := !decide (c_3_3' = 0)) rfl (fun hb => ?_) (fun hb => ?_)
      ·replace h := e8 h hb
       refine a7 (fun _ hK_55' => ?_)
       refine afx 9 [0, 1, 2, 3, 4, 5, 6] [HA.blk b_1' (.cells [w, zI k_9', zI op_9', zI c_3_3', zI c_4_3', w_13', w_12', zI i_3'].toArray 62 (0, 0)), HA.row w 64 3 ((b9 text).1).length (((b9 text).1).flatMap e6), HA.row w_13' 69 4 nl_3'.length (nl_3'.flatMap ndC), pool B_4', HA.row w_12' 43 3 l_5'.length (l_5'.flatMap rdC), HA.row (Value.slice none 0 0) 43 3 ([] : List RdV).length (([] : List RdV).flatMap rdC), HA.row (Value.slice none 0 0) 69 4 ([] : List NdV).length (([] : List NdV).flatMap ndC)] rfl rfl f0 (by kernel_rfl) (fun T_13' hT_13' => ?_)
       refine TW.val (OV.build rfl (cs := [Value.slice none 0 0, Value.slice none 0 0, zI 0]) rfl) rfl rfl rfl ?_
       refine TW.val (OV.move rfl) rfl rfl rfl ?_
       refine TW.val (OV.nilCheck rfl) rfl rfl rfl ?_
       refine TW.val (OV.fieldAddr0 rfl q9) rfl rfl rfl ?_
       refine TW.val (OV.load rfl (At.own 0 rfl) rfl a8) rfl rfl rfl ?_
       refine TW.val (OV.move rfl) rfl rfl rfl ?_
       refine TW.val (OV.nilCheck rfl) rfl rfl rfl ?_
       refine TW.val (OV.fieldAddr0 rfl aha) rfl rfl rfl ?_
       refine TW.val (OV.load rfl (At.own 0 rfl) rfl a8) rfl rfl rfl ?_
       refine TW.nil (hT_13' _ ?_)
       refine WLK.op [0, 1, 2, 3, 4, 5, 6] rfl rfl (OpK.storeW (vs := [Value.slice none 0 0, Value.slice none 0 0, zI 0]) 7 rfl rfl rfl rfl rfl ads rfl rfl) rfl ?_
       refine WLK.op [0, 1, 2, 3, 4, 5, 6] rfl rfl (OpK.val (OV.assign rfl) rfl rfl) rfl ?_
       refine WLK.op [0, 1, 2, 3, 4, 5, 6] rfl rfl (OpK.val (OV.assign rfl) rfl rfl) rfl ?_
       refine WLK.nil ?_
       refine kg (hK_55' [(2, zP b), (3, zI c_3_3'), (4, zI c_4_3')] _ ?_)
       refine b8 ?_
       exact hE.ret [3] rfl rfl (.inl ⟨_, _, _, _, _, _, h, rfl⟩) (d7.of3 rfl (RV.row rfl (At.own 7 rfl) aai) (RV.tmp rfl) (RV.tmp rfl))
      ·replace h := e9 h hb
       refine b6 ?_
       refine kg (hK_53' [(2, zP b), (8, zP b_1')] _ ?_)
       refine a7 (fun _ hK_56' => ?_)
       refine a6 ?_
       refine wm ?_
       refine wv (OV.nilCheck rfl) ?_
       refine wv (OV.fieldAddr0 rfl y8) ?_
       refine wv (OV.loadM (vs := [w_13', w_12', zI i_3']) rfl (At.own 0 rfl) rfl aai) ?_
       refine WL.rowOne 2 rfl (fun hone0 => ?_)
       refine WL.rowOne 4 rfl (fun hone1 => ?_)
       refine WL.storeW (vs := [w_13', w_12', zI i_3']) 7 rfl rfl rfl rfl rfl ads rfl (d4 hone0 (d4 hone1 (d4 rfl o6))) rfl ?_
       refine wA ?_
       refine wA ?_
       refine WL.nil ?_
       refine kg (hK_56' [(2, zP b), (3, zI 0), (4, zI 0)] _ ?_)
       refine b8 ?_
       refine QX.pick (H' := [HA.row w_13' 69 4 nl_3'.length (nl_3'.flatMap ndC), pool B_4', HA.blk b_1' (.cells [w, zI k_9', zI op_9', zI c_3_3', zI c_4_3', w_13', w_12', zI i_3'].toArray 62 (0, 0)), HA.row w 64 3 ((b9 text).1).length (((b9 text).1).flatMap e6), HA.row w_12' 43 3 l_5'.length (l_5'.flatMap rdC), HA.row (Value.slice none 0 0) 43 3 ([] : List RdV).length (([] : List RdV).flatMap rdC), HA.row (Value.slice none 0 0) 69 4 ([] : List NdV).length (([] : List NdV).flatMap ndC), HA.blk b (.cells [w_13', w_12', zI i_3'].toArray 32 (0, 0))]) [2, 3, 0, 1, 4, 5, 6, 7] rfl rfl ?_
       refine QX.absorbRow0 (fun R_2' hl_2' => ?_)
       refine QX.pick (H' := [HA.row w_12' 43 3 l_5'.length (l_5'.flatMap rdC), pool (R_2' ++ B_4'), HA.blk b_1' (.cells [w, zI k_9', zI op_9', zI c_3_3', zI c_4_3', w_13', w_12', zI i_3'].toArray 62 (0, 0)), HA.row w 64 3 ((b9 text).1).length (((b9 text).1).flatMap e6), HA.row (Value.slice none 0 0) 43 3 ([] : List RdV).length (([] : List RdV).flatMap rdC), HA.row (Value.slice none 0 0) 69 4 ([] : List NdV).length (([] : List NdV).flatMap ndC), HA.blk b (.cells [w_13', w_12', zI i_3'].toArray 32 (0, 0))]) [3, 0, 1, 2, 4, 5, 6] rfl rfl ?_
       refine QX.absorbRow0 (fun R_3' hl_3' => ?_)
       exact hE.ret [0] rfl rfl (.inl ⟨_, _, _, _, _, _, (h w_13' R_2' hl_2' w_12' R_3' hl_3'), rfl⟩) (d7.of3 rfl (RV.row rfl (At.own 5 rfl) aai) (RV.tmp rfl) (RV.tmp rfl))
     ·skip
      refine a7 (fun _ hK_57' => ?_)
      refine l8 [] f0 (by kernel_rfl) rfl (fun T_14' hT_14' => ?_)
      refine fv (fun _ => OV.move rfl) ?_
      refine fv (fun _ => OV.nilCheck rfl) ?_
      refine fv (fun _ => OV.fieldAddr0 rfl q9) ?_
      refine fv (fun _ => OV.load rfl (At.own 0 rfl) rfl a8) ?_
      refine fv (fun _ => OV.eql rfl rfl) ?_
      refine fv (fun _ => OV.move rfl) ?_
      obtain ⟨o_51', h⟩ := h
      refine FL.cut 13 rfl (fun _ => [(2, zP b), (8, zP b_1'), (157, zB ((decide (er_9' = 0)) && (!decide ((((b9 text).1).getD (k_9').toNat default).1 = 0))))]) ?_ (fun K0_58' hK_58' => ?_)
      rotate_left
      ·refine FL.split (decide (er_9' = 0)) (fun hb => ?_) (fun hb => ?_)
       ·have o_50' := o_51' hb
        refine FL.set 144 (fun _ => rfl) (congrArg zB hb) ?_
        refine fv (fun _ => OV.move rfl) ?_
        refine fv (fun _ => OV.nilCheck rfl) ?_
        refine fv (fun _ => OV.fieldAddr0 rfl l0) ?_
        refine fv (fun _ => OV.load rfl (At.own 0 rfl) rfl p8) ?_
        refine fv (fun _ => OV.move rfl) ?_
        refine fv (fun _ => OV.nilCheck rfl) ?_
        refine fv (fun _ => OV.fieldAddr0 rfl e7) ?_
        refine fv (fun _ => OV.load rfl (At.own 0 rfl) rfl a8) ?_
        refine fv (fun _ => OV.indexRow 1 rfl rfl rfl r9 o_50') ?_
        refine fv (fun _ => OV.fieldAddr rfl m6) ?_
        refine fv (fun _ => OV.loadEF (f := e6) (o := 0) 1 rfl rfl p9 (by omega) rfl a8) ?_
        refine fv (fun _ => OV.neq rfl rfl) ?_
        refine fv (fun _ => OV.pickT rfl rfl) ?_
        refine FL.set 157 (fun _ => rfl) (bT (v := !decide ((((b9 text).1).getD (k_9').toNat default).1 = 0)) hb) ?_
        exact FL.weak (L' := fun _ => [(2, zP b), (8, zP b_1'), (157, zB ((decide (er_9' = 0)) && (!decide ((((b9 text).1).getD (k_9').toNat default).1 = 0))))]) (fun _ => ⟨rfl, rfl, rfl, trivial⟩) (FL.nil hK_58')
       ·refine FL.set 144 (fun _ => rfl) (congrArg zB hb) ?_
        refine FL.skip rfl (fun _ => rfl) rfl rfl ?_
        refine FL.skip rfl (fun _ => rfl) rfl rfl ?_
        refine FL.skip rfl (fun _ => rfl) rfl rfl ?_
        refine FL.skip rfl (fun _ => rfl) rfl rfl ?_
        refine FL.skip rfl (fun _ => rfl) rfl rfl ?_
        refine FL.skip rfl (fun _ => rfl) rfl rfl ?_
        refine FL.skip rfl (fun _ => rfl) rfl rfl ?_
        refine FL.skip rfl (fun _ => rfl) rfl rfl ?_
        refine FL.skip rfl (fun _ => rfl) rfl rfl ?_
        refine FL.skip rfl (fun _ => rfl) rfl rfl ?_
        refine FL.skip rfl (fun _ => rfl) rfl rfl ?_
        refine FL.skip rfl (fun _ => rfl) rfl rfl ?_
        refine fv (fun _ => OV.pickF rfl rfl) ?_
        refine FL.set 157 (fun _ => rfl) (bF (v := !decide ((((b9 text).1).getD (k_9').toNat default).1 = 0)) hb) ?_
        exact FL.weak (L' := fun _ => [(2, zP b), (8, zP b_1'), (157, zB ((decide (er_9' = 0)) && (!decide ((((b9 text).1).getD (k_9').toNat default).1 = 0))))]) (fun _ => ⟨rfl, rfl, rfl, trivial⟩) (FL.nil hK_58')
      refine FL.weak (L' := fun _ => [(2, zP b), (8, zP b_1'), (157, zB ((decide (er_9' = 0)) && (!decide ((((b9 text).1).getD (k_9').toNat default).1 = 0))))]) (fun _ => ⟨rfl, rfl, rfl, trivial⟩) (FL.nil (hT_14' (fun _ => [(2, zP b), (8, zP b_1'), (157, zB ((decide (er_9' = 0)) && (!decide ((((b9 text).1).getD (k_9').toNat default).1 = 0))))]) (fun _ => ?_)))
      refine kg (hK_57' [(2, zP b), (8, zP b_1'), (157, zB ((decide (er_9' = 0)) && (!decide ((((b9 text).1).getD (k_9').toNat default).1 = 0))))] _ ?_)
      refine b5 (b := (decide (er_9' = 0)) && (!decide ((((b9 text).1).getD (k_9').toNat default).1 = 0))) rfl (fun hb => ?_) (fun hb => ?_)
      ·replace h := e8 h hb
       refine a6 ?_
       refine wm ?_
       obtain ⟨o_52', h⟩ := h
       refine WL.call adc rfl (acc b_1' w ((b9 text).1) w_13' nl_3' k_9' op_9' er_9' ea_9' w_12' i_3' B_4' (60 : Int) o_52') rfl trivial rfl rfl ?_
       refine WL.nil ?_
       exact kh (hK_52' (acy er_9' (60 : Int), acw ((b9 text).1) k_9' er_9' ea_9') h) [0, 1, 2, 3, 4, 5, 6, 7]
      ·replace h := e9 h hb
       refine b6 ?_
       exact kh (hK_52' (er_9', ea_9') h) [0, 1, 2, 3, 4, 5, 6, 7]
    ·obtain ⟨w_13', i_3', k_9', op_9', er_9', ea_9', nl_3', B_4', hc, ho⟩ := hS
     cases ho
   ·skip
    refine b7 ?_
    obtain ⟨Inv_1', mu_1', h0_1', hr_1'⟩ := h
    refine o7 (S := Value × (List RdV) × Value × (List NdV) × Int × Int × Int × Int × (List (Nat × Obj))) (fun σ => Inv_1' σ.2.1 σ.2.2.2.1 σ.2.2.2.2.1 σ.2.2.2.2.2.1 σ.2.2.2.2.2.2.1 σ.2.2.2.2.2.2.2.1 σ.2.2.2.2.2.2.2.2) (fun σ => mu_1' σ.2.1 σ.2.2.2.1 σ.2.2.2.2.1 σ.2.2.2.2.2.1 σ.2.2.2.2.2.2.1 σ.2.2.2.2.2.2.2.1 σ.2.2.2.2.2.2.2.2) (fun σ => [(2, zP b), (8, zP b_1')]) (fun σ => [HA.row σ.1 43 3 σ.2.1.length (σ.2.1.flatMap rdC), HA.row σ.2.2.1 69 4 σ.2.2.2.1.length (σ.2.2.2.1.flatMap ndC), HA.blk b_1' (.cells [w, zI σ.2.2.2.2.1, zI σ.2.2.2.2.2.1, zI σ.2.2.2.2.2.2.1, zI σ.2.2.2.2.2.2.2.1, σ.2.2.1, σ.1, zI 0].toArray 62 (0, 0)), HA.row w 64 3 ((b9 text).1).length (((b9 text).1).flatMap e6), HA.row (Value.slice none 0 0) 43 3 ([] : List RdV).length (([] : List RdV).flatMap rdC), HA.row (Value.slice none 0 0) 69 4 ([] : List NdV).length (([] : List NdV).flatMap ndC), HA.blk b (.cells [Value.slice none 0 0, Value.slice none 0 0, zI 0].toArray 32 (0, 0)), pool σ.2.2.2.2.2.2.2.2]) (Value.slice none 0 0, [], Value.slice none 0 0, [], 0, 0, 0, 0, B) h0_1' ⟨rfl, rfl, trivial⟩ rfl ?_
    rintro ⟨w_20', l_8', w_21', l_9', c_1_4', c_2_4', c_3_5', c_4_5', c_4'⟩ hi K0_86' hK_86'
    have h := hr_1' l_8' l_9' c_1_4' c_2_4' c_3_5' c_4_5' c_4' hi
    show WC _ _ _ _ [(2, zP b), (8, zP b_1')] [HA.row w_20' 43 3 l_8'.length (l_8'.flatMap rdC), HA.row w_21' 69 4 l_9'.length (l_9'.flatMap ndC), HA.blk b_1' (.cells [w, zI c_1_4', zI c_2_4', zI c_3_5', zI c_4_5', w_21', w_20', zI 0].toArray 62 (0, 0)), HA.row w 64 3 ((b9 text).1).length (((b9 text).1).flatMap e6), HA.row (Value.slice none 0 0) 43 3 ([] : List RdV).length (([] : List RdV).flatMap rdC), HA.row (Value.slice none 0 0) 69 4 ([] : List NdV).length (([] : List NdV).flatMap ndC), HA.blk b (.cells [Value.slice none 0 0, Value.slice none 0 0, zI 0].toArray 32 (0, 0)), pool c_4']
    refine a7 (fun _ hK_87' => ?_)
    refine a7 (fun _ hK_88' => ?_)
    refine l8 [] f0 (by kernel_rfl) rfl (fun T_23' hT_23' => ?_)
    refine fv (fun _ => OV.move rfl) ?_
    refine fv (fun _ => OV.nilCheck rfl) ?_
    refine fv (fun _ => OV.fieldAddr0 rfl q9) ?_
    refine fv (fun _ => OV.load rfl (At.own 2 rfl) rfl a8) ?_
    refine fv (fun _ => OV.eql rfl rfl) ?_
    refine fv (fun _ => OV.move rfl) ?_
    obtain ⟨o_83', h⟩ := h
    refine FL.cut 13 rfl (fun _ => [(2, zP b), (8, zP b_1'), (42, zB ((decide (c_3_5' = 0)) && (decide ((((b9 text).1).getD (c_1_4').toNat default).1 = 1))))]) ?_ (fun K0_89' hK_89' => ?_)
    rotate_left
    ·refine FL.split (decide (c_3_5' = 0)) (fun hb => ?_) (fun hb => ?_)
     ·have o_82' := o_83' hb
      refine FL.set 29 (fun _ => rfl) (congrArg zB hb) ?_
      refine fv (fun _ => OV.move rfl) ?_
      refine fv (fun _ => OV.nilCheck rfl) ?_
      refine fv (fun _ => OV.fieldAddr0 rfl l0) ?_
      refine fv (fun _ => OV.load rfl (At.own 2 rfl) rfl p8) ?_
      refine fv (fun _ => OV.move rfl) ?_
      refine fv (fun _ => OV.nilCheck rfl) ?_
      refine fv (fun _ => OV.fieldAddr0 rfl e7) ?_
      refine fv (fun _ => OV.load rfl (At.own 2 rfl) rfl a8) ?_
      refine fv (fun _ => OV.indexRow 3 rfl rfl rfl r9 o_82') ?_
      refine fv (fun _ => OV.fieldAddr rfl m6) ?_
      refine fv (fun _ => OV.loadEF (f := e6) (o := 0) 3 rfl rfl p9 (by omega) rfl a8) ?_
      refine fv (fun _ => OV.eql rfl rfl) ?_
      refine fv (fun _ => OV.pickT rfl rfl) ?_
      refine FL.set 42 (fun _ => rfl) (bT (v := decide ((((b9 text).1).getD (c_1_4').toNat default).1 = 1)) hb) ?_
      exact FL.weak (L' := fun _ => [(2, zP b), (8, zP b_1'), (42, zB ((decide (c_3_5' = 0)) && (decide ((((b9 text).1).getD (c_1_4').toNat default).1 = 1))))]) (fun _ => ⟨rfl, rfl, rfl, trivial⟩) (FL.nil hK_89')
     ·refine FL.set 29 (fun _ => rfl) (congrArg zB hb) ?_
      refine FL.skip rfl (fun _ => rfl) rfl rfl ?_
      refine FL.skip rfl (fun _ => rfl) rfl rfl ?_
      refine FL.skip rfl (fun _ => rfl) rfl rfl ?_
      refine FL.skip rfl (fun _ => rfl) rfl rfl ?_
      refine FL.skip rfl (fun _ => rfl) rfl rfl ?_
      refine FL.skip rfl (fun _ => rfl) rfl rfl ?_
      refine FL.skip rfl (fun _ => rfl) rfl rfl ?_
      refine FL.skip rfl (fun _ => rfl) rfl rfl ?_
      refine FL.skip rfl (fun _ => rfl) rfl rfl ?_
      refine FL.skip rfl (fun _ => rfl) rfl rfl ?_
      refine FL.skip rfl (fun _ => rfl) rfl rfl ?_
      refine FL.skip rfl (fun _ => rfl) rfl rfl ?_
      refine fv (fun _ => OV.pickF rfl rfl) ?_
      refine FL.set 42 (fun _ => rfl) (bF (v := decide ((((b9 text).1).getD (c_1_4').toNat default).1 = 1)) hb) ?_
      exact FL.weak (L' := fun _ => [(2, zP b), (8, zP b_1'), (42, zB ((decide (c_3_5' = 0)) && (decide ((((b9 text).1).getD (c_1_4').toNat default).1 = 1))))]) (fun _ => ⟨rfl, rfl, rfl, trivial⟩) (FL.nil hK_89')
    refine fv (fun _ => OV.move rfl) ?_
    obtain ⟨o_85', h⟩ := h
    refine FL.cut 13 rfl (fun _ => [(2, zP b), (8, zP b_1'), (56, zB (((decide (c_3_5' = 0)) && (decide ((((b9 text).1).getD (c_1_4').toNat default).1 = 1))) && (decide ((((b9 text).1).getD (c_1_4').toNat default).2.2 = ([108, 101, 116] : List UInt8)))))]) ?_ (fun K0_90' hK_90' => ?_)
    rotate_left
    ·refine FL.split ((decide (c_3_5' = 0)) && (decide ((((b9 text).1).getD (c_1_4').toNat default).1 = 1))) (fun hb => ?_) (fun hb => ?_)
     ·have o_84' := o_85' hb
      refine FL.set 43 (fun _ => rfl) (congrArg zB hb) ?_
      refine fv (fun _ => OV.move rfl) ?_
      refine fv (fun _ => OV.nilCheck rfl) ?_
      refine fv (fun _ => OV.fieldAddr0 rfl l0) ?_
      refine fv (fun _ => OV.load rfl (At.own 2 rfl) rfl p8) ?_
      refine fv (fun _ => OV.move rfl) ?_
      refine fv (fun _ => OV.nilCheck rfl) ?_
      refine fv (fun _ => OV.fieldAddr0 rfl e7) ?_
      refine fv (fun _ => OV.load rfl (At.own 2 rfl) rfl a8) ?_
      refine fv (fun _ => OV.indexRow 3 rfl rfl rfl r9 o_84') ?_
      refine fv (fun _ => OV.fieldAddr rfl l3) ?_
      refine fv (fun _ => OV.loadEF (f := e6) (o := 2) 3 rfl rfl p9 (by omega) rfl c7) ?_
      refine fv (fun _ => OV.eqlS rfl rfl) ?_
      refine fv (fun _ => OV.pickT rfl rfl) ?_
      refine FL.set 56 (fun _ => rfl) (bT (v := decide ((((b9 text).1).getD (c_1_4').toNat default).2.2 = ([108, 101, 116] : List UInt8))) hb) ?_
      exact FL.weak (L' := fun _ => [(2, zP b), (8, zP b_1'), (56, zB (((decide (c_3_5' = 0)) && (decide ((((b9 text).1).getD (c_1_4').toNat default).1 = 1))) && (decide ((((b9 text).1).getD (c_1_4').toNat default).2.2 = ([108, 101, 116] : List UInt8)))))]) (fun _ => ⟨rfl, rfl, rfl, trivial⟩) (FL.nil hK_90')
     ·refine FL.set 43 (fun _ => rfl) (congrArg zB hb) ?_
      refine FL.skip rfl (fun _ => rfl) rfl rfl ?_
      refine FL.skip rfl (fun _ => rfl) rfl rfl ?_
      refine FL.skip rfl (fun _ => rfl) rfl rfl ?_
      refine FL.skip rfl (fun _ => rfl) rfl rfl ?_
      refine FL.skip rfl (fun _ => rfl) rfl rfl ?_
      refine FL.skip rfl (fun _ => rfl) rfl rfl ?_
      refine FL.skip rfl (fun _ => rfl) rfl rfl ?_
      refine FL.skip rfl (fun _ => rfl) rfl rfl ?_
      refine FL.skip rfl (fun _ => rfl) rfl rfl ?_
      refine FL.skip rfl (fun _ => rfl) rfl rfl ?_
      refine FL.skip rfl (fun _ => rfl) rfl rfl ?_
      refine FL.skip rfl (fun _ => rfl) rfl rfl ?_
      refine fv (fun _ => OV.pickF rfl rfl) ?_
      refine FL.set 56 (fun _ => rfl) (bF (v := decide ((((b9 text).1).getD (c_1_4').toNat default).2.2 = ([108, 101, 116] : List UInt8))) hb) ?_
      exact FL.weak (L' := fun _ => [(2, zP b), (8, zP b_1'), (56, zB (((decide (c_3_5' = 0)) && (decide ((((b9 text).1).getD (c_1_4').toNat default).1 = 1))) && (decide ((((b9 text).1).getD (c_1_4').toNat default).2.2 = ([108, 101, 116] : List UInt8)))))]) (fun _ => ⟨rfl, rfl, rfl, trivial⟩) (FL.nil hK_90')
    refine FL.weak (L' := fun _ => [(2, zP b), (8, zP b_1'), (56, zB (((decide (c_3_5' = 0)) && (decide ((((b9 text).1).getD (c_1_4').toNat default).1 = 1))) && (decide ((((b9 text).1).getD (c_1_4').toNat default).2.2 = ([108, 101, 116] : List UInt8)))))]) (fun _ => ⟨rfl, rfl, rfl, trivial⟩) (FL.nil (hT_23' (fun _ => [(2, zP b), (8, zP b_1'), (56, zB (((decide (c_3_5' = 0)) && (decide ((((b9 text).1).getD (c_1_4').toNat default).1 = 1))) && (decide ((((b9 text).1).getD (c_1_4').toNat default).2.2 = ([108, 101, 116] : List UInt8)))))]) (fun _ => ?_)))
    refine kg (hK_88' [(2, zP b), (8, zP b_1'), (56, zB (((decide (c_3_5' = 0)) && (decide ((((b9 text).1).getD (c_1_4').toNat default).1 = 1))) && (decide ((((b9 text).1).getD (c_1_4').toNat default).2.2 = ([108, 101, 116] : List UInt8)))))] _ ?_)
    refine b5 (b := ((decide (c_3_5' = 0)) && (decide ((((b9 text).1).getD (c_1_4').toNat default).1 = 1))) && (decide ((((b9 text).1).getD (c_1_4').toNat default).2.2 = ([108, 101, 116] : List UInt8)))) rfl (fun hb => ?_) (fun hb => ?_)
    ·replace h := e8 h hb
     refine b6 ?_
     refine kg (hK_87' [(2, zP b), (8, zP b_1')] _ ?_)
     refine b7 ?_
     refine a7 (fun _ hK_91' => ?_)
     refine a6 ?_
     refine wm ?_
     refine wv (OV.nilCheck rfl) ?_
     refine wv (OV.fieldAddr0 rfl e7) ?_
     refine wv (OV.load rfl (At.own 2 rfl) rfl a8) ?_
     obtain ⟨o_86', h⟩ := h
     refine wv (OV.add rfl rfl o_86') ?_
     refine wv (OV.nilCheck rfl) ?_
     refine wv (OV.fieldAddr0 rfl e7) ?_
     refine WL.store (vs := [zI (c_1_4' + 1)]) (cs' := [w, zI (c_1_4' + 1), zI c_2_4', zI c_3_5', zI c_4_5', w_21', w_20', zI 0]) 2 rfl rfl rfl rfl f9 (Nat.le_of_ble_eq_true rfl) rfl rfl rfl ?_
     refine WL.nil ?_
     refine kg (hK_91' [(2, zP b), (8, zP b_1')] _ ?_)
     refine a7 (fun _ hK_92' => ?_)
     refine m0 24 [(23, .cells [zI 0, st [], zI 0].toArray 43 (0, 0))] f0 (by kernel_rfl) rfl (fun T_24' hT_24' => ?_)
     refine fv (fun _ => OV.move rfl) ?_
     refine fv (fun _ => OV.nilCheck rfl) ?_
     refine fv (fun _ => OV.fieldAddr0 rfl l0) ?_
     refine fv (fun _ => OV.load rfl (At.own 2 rfl) rfl p8) ?_
     refine fv (fun _ => OV.move rfl) ?_
     refine fv (fun _ => OV.nilCheck rfl) ?_
     refine fv (fun _ => OV.fieldAddr0 rfl e7) ?_
     refine fv (fun _ => OV.load rfl (At.own 2 rfl) rfl a8) ?_
     obtain ⟨o_87', h⟩ := h
     refine fv (fun _ => OV.indexRow 3 rfl rfl rfl r9 o_87') ?_
     refine fv (fun _ => OV.fieldAddr rfl s8) ?_
     refine fv (fun _ => OV.loadEF (f := e6) (o := 1) 3 rfl rfl p9 (by omega) rfl a8) ?_
     refine fv (fun _ => OV.move rfl) ?_
     refine fv (fun _ => OV.nilCheck rfl) ?_
     refine fv (fun _ => OV.fieldAddr0 rfl l0) ?_
     refine fv (fun _ => OV.load rfl (At.own 2 rfl) rfl p8) ?_
     refine fv (fun _ => OV.move rfl) ?_
     refine fv (fun _ => OV.nilCheck rfl) ?_
     refine fv (fun _ => OV.fieldAddr0 rfl e7) ?_
     refine fv (fun _ => OV.load rfl (At.own 2 rfl) rfl a8) ?_
     obtain ⟨o_88', h⟩ := h
     refine fv (fun _ => OV.indexRow 3 rfl rfl rfl r9 o_88') ?_
     refine fv (fun _ => OV.fieldAddr rfl l3) ?_
     refine fv (fun _ => OV.loadEF (f := e6) (o := 2) 3 rfl rfl p9 (by omega) rfl c7) ?_
     refine fv (fun _ => OV.build rfl (cs := [zI ((((b9 text).1).getD ((c_1_4' + 1)).toNat default).2.1), st ((((b9 text).1).getD ((c_1_4' + 1)).toNat default).2.2), zI 0]) rfl) ?_
     refine FL.make (fun _ => MV.alloc apy) rfl (fun _ => rfl) rfl rfl ?_
     refine FL.weak (L' := fun γ => [(2, zP b), (8, zP b_1'), (9, Value.pointer (some ⟨(γ 23), 0, none⟩)), (86, Value.agg [zI ((((b9 text).1).getD ((c_1_4' + 1)).toNat default).2.1), st ((((b9 text).1).getD ((c_1_4' + 1)).toNat default).2.2), zI 0].toArray)]) (fun γ => ⟨rfl, rfl, rfl, rfl, trivial⟩) (FL.nil (hT_24' (fun γ => [(2, zP b), (8, zP b_1'), (9, Value.pointer (some ⟨(γ 23), 0, none⟩)), (86, Value.agg [zI ((((b9 text).1).getD ((c_1_4' + 1)).toNat default).2.1), st ((((b9 text).1).getD ((c_1_4' + 1)).toNat default).2.2), zI 0].toArray)]) (fun γ => ?_)))
     show WL _ _ _ _ [(2, zP b), (8, zP b_1'), (9, Value.pointer (some ⟨(γ 23), 0, none⟩)), (86, Value.agg [zI ((((b9 text).1).getD ((c_1_4' + 1)).toNat default).2.1), st ((((b9 text).1).getD ((c_1_4' + 1)).toNat default).2.2), zI 0].toArray)] [HA.blk (γ 23) (.cells [zI 0, st [], zI 0].toArray 43 (0, 0)), HA.row w_20' 43 3 l_8'.length (l_8'.flatMap rdC), HA.row w_21' 69 4 l_9'.length (l_9'.flatMap ndC), HA.blk b_1' (.cells [w, zI (c_1_4' + 1), zI c_2_4', zI c_3_5', zI c_4_5', w_21', w_20', zI 0].toArray 62 (0, 0)), HA.row w 64 3 ((b9 text).1).length (((b9 text).1).flatMap e6), HA.row (Value.slice none 0 0) 43 3 ([] : List RdV).length (([] : List RdV).flatMap rdC), HA.row (Value.slice none 0 0) 69 4 ([] : List NdV).length (([] : List NdV).flatMap ndC), HA.blk b (.cells [Value.slice none 0 0, Value.slice none 0 0, zI 0].toArray 32 (0, 0)), pool c_4'] _
     generalize γ 23 = b_12'
     refine WL.storeW (vs := [zI ((((b9 text).1).getD ((c_1_4' + 1)).toNat default).2.1), st ((((b9 text).1).getD ((c_1_4' + 1)).toNat default).2.2), zI 0]) 0 rfl rfl rfl rfl rfl aqx rfl rfl rfl ?_
     refine WL.nil ?_
     refine kg (hK_92' [(2, zP b), (8, zP b_1'), (9, zP b_12')] _ ?_)
     refine a7 (fun _ hK_93' => ?_)
     refine a7 (fun _ hK_94' => ?_)
     refine l8 [] f0 (by kernel_rfl) rfl (fun T_25' hT_25' => ?_)
     refine fv (fun _ => OV.move rfl) ?_
     refine fv (fun _ => OV.nilCheck rfl) ?_
     refine fv (fun _ => OV.fieldAddr0 rfl l0) ?_
     refine fv (fun _ => OV.load rfl (At.own 3 rfl) rfl p8) ?_
     refine fv (fun _ => OV.move rfl) ?_
     refine fv (fun _ => OV.nilCheck rfl) ?_
     refine fv (fun _ => OV.fieldAddr0 rfl e7) ?_
     refine fv (fun _ => OV.load rfl (At.own 3 rfl) rfl a8) ?_
     obtain ⟨o_89', h⟩ := h
     refine fv (fun _ => OV.indexRow 4 rfl rfl rfl r9 o_89') ?_
     refine fv (fun _ => OV.fieldAddr rfl m6) ?_
     refine fv (fun _ => OV.loadEF (f := e6) (o := 0) 4 rfl rfl p9 (by omega) rfl a8) ?_
     refine fv (fun _ => OV.neq rfl rfl) ?_
     refine fv (fun _ => OV.move rfl) ?_
     refine FL.cut 5 rfl (fun _ => [(2, zP b), (8, zP b_1'), (9, zP b_12'), (104, zB ((!decide ((((b9 text).1).getD ((c_1_4' + 1)).toNat default).1 = 1)) || (!decide (d6 ((((b9 text).1).getD ((c_1_4' + 1)).toNat default).2.2) = 0))))]) ?_ (fun K0_95' hK_95' => ?_)
     rotate_left
     ·refine FL.split (!decide ((((b9 text).1).getD ((c_1_4' + 1)).toNat default).1 = 1)) (fun hb => ?_) (fun hb => ?_)
      ·refine FL.set 99 (fun _ => rfl) (congrArg zB hb) ?_
       refine FL.skip rfl (fun _ => rfl) rfl rfl ?_
       refine FL.skip rfl (fun _ => rfl) rfl rfl ?_
       refine FL.skip rfl (fun _ => rfl) rfl rfl ?_
       refine FL.skip rfl (fun _ => rfl) rfl rfl ?_
       refine fv (fun _ => OV.pickT rfl rfl) ?_
       refine FL.set 104 (fun _ => rfl) (oT (v := !decide (d6 ((((b9 text).1).getD ((c_1_4' + 1)).toNat default).2.2) = 0)) hb) ?_
       exact FL.weak (L' := fun _ => [(2, zP b), (8, zP b_1'), (9, zP b_12'), (104, zB ((!decide ((((b9 text).1).getD ((c_1_4' + 1)).toNat default).1 = 1)) || (!decide (d6 ((((b9 text).1).getD ((c_1_4' + 1)).toNat default).2.2) = 0))))]) (fun _ => ⟨rfl, rfl, rfl, rfl, trivial⟩) (FL.nil hK_95')
      ·refine FL.set 99 (fun _ => rfl) (congrArg zB hb) ?_
       refine fv (fun _ => OV.fieldAddr0 rfl agk) ?_
       refine fv (fun _ => OV.load rfl (At.own 0 rfl) rfl c7) ?_
       refine FL.call alz (fun _ => rfl) (ajf ((((b9 text).1).getD ((c_1_4' + 1)).toNat default).2.2)) trivial rfl (fun _ => rfl) rfl ?_
       refine fv (fun _ => OV.neq rfl rfl) ?_
       refine fv (fun _ => OV.pickF rfl rfl) ?_
       refine FL.set 104 (fun _ => rfl) (oF (v := !decide (d6 ((((b9 text).1).getD ((c_1_4' + 1)).toNat default).2.2) = 0)) hb) ?_
       exact FL.weak (L' := fun _ => [(2, zP b), (8, zP b_1'), (9, zP b_12'), (104, zB ((!decide ((((b9 text).1).getD ((c_1_4' + 1)).toNat default).1 = 1)) || (!decide (d6 ((((b9 text).1).getD ((c_1_4' + 1)).toNat default).2.2) = 0))))]) (fun _ => ⟨rfl, rfl, rfl, rfl, trivial⟩) (FL.nil hK_95')
     refine FL.weak (L' := fun _ => [(2, zP b), (8, zP b_1'), (9, zP b_12'), (104, zB ((!decide ((((b9 text).1).getD ((c_1_4' + 1)).toNat default).1 = 1)) || (!decide (d6 ((((b9 text).1).getD ((c_1_4' + 1)).toNat default).2.2) = 0))))]) (fun _ => ⟨rfl, rfl, rfl, rfl, trivial⟩) (FL.nil (hT_25' (fun _ => [(2, zP b), (8, zP b_1'), (9, zP b_12'), (104, zB ((!decide ((((b9 text).1).getD ((c_1_4' + 1)).toNat default).1 = 1)) || (!decide (d6 ((((b9 text).1).getD ((c_1_4' + 1)).toNat default).2.2) = 0))))]) (fun _ => ?_)))
     refine kg (hK_94' [(2, zP b), (8, zP b_1'), (9, zP b_12'), (104, zB ((!decide ((((b9 text).1).getD ((c_1_4' + 1)).toNat default).1 = 1)) || (!decide (d6 ((((b9 text).1).getD ((c_1_4' + 1)).toNat default).2.2) = 0))))] _ ?_)
     refine b5 (b := (!decide ((((b9 text).1).getD ((c_1_4' + 1)).toNat default).1 = 1)) || (!decide (d6 ((((b9 text).1).getD ((c_1_4' + 1)).toNat default).2.2) = 0))) rfl (fun hb => ?_) (fun hb => ?_)
     ·replace h := e8 h hb
      refine a7 (fun _ hK_96' => ?_)
      refine a6 ?_
      refine wm ?_
      obtain ⟨o_91', h⟩ := h
      refine WL.pick (H' := [HA.blk b_1' (.cells [w, zI (c_1_4' + 1), zI c_2_4', zI c_3_5', zI c_4_5', w_21', w_20', zI 0].toArray 62 (0, 0)), HA.row w 64 3 ((b9 text).1).length (((b9 text).1).flatMap e6), HA.row w_21' 69 4 l_9'.length (l_9'.flatMap ndC), pool c_4', HA.blk b_12' (.cells [zI ((((b9 text).1).getD ((c_1_4' + 1)).toNat default).2.1), st ((((b9 text).1).getD ((c_1_4' + 1)).toNat default).2.2), zI 0].toArray 43 (0, 0)), HA.row w_20' 43 3 l_8'.length (l_8'.flatMap rdC), HA.row (Value.slice none 0 0) 43 3 ([] : List RdV).length (([] : List RdV).flatMap rdC), HA.row (Value.slice none 0 0) 69 4 ([] : List NdV).length (([] : List NdV).flatMap ndC), HA.blk b (.cells [Value.slice none 0 0, Value.slice none 0 0, zI 0].toArray 32 (0, 0))]) [3, 4, 2, 8, 0, 1, 5, 6, 7] rfl rfl ?_
      refine WL.call adc rfl (acc b_1' w ((b9 text).1) w_21' l_9' (c_1_4' + 1) c_2_4' c_3_5' c_4_5' w_20' (0 : Int) c_4' (60 : Int) o_91') rfl trivial rfl rfl ?_
      refine WL.nil ?_
      refine kg (hK_96' [(2, zP b), (8, zP b_1')] _ ?_)
      refine l4 ?_
      exact kh (hK_48' (c_1_4' + 1, c_2_4', acy c_3_5' (60 : Int), acw ((b9 text).1) (c_1_4' + 1) c_3_5' c_4_5', w_21', l_9', c_4', w_20', l_8') h) [0, 1, 2, 3, 5, 6, 7, 8]
     ·replace h := e9 h hb
      refine b6 ?_
      refine kg (hK_93' [(2, zP b), (8, zP b_1'), (9, zP b_12')] _ ?_)
      refine a7 (fun _ hK_97' => ?_)
      refine a6 ?_
      refine wm ?_
      refine wv (OV.nilCheck rfl) ?_
      refine wv (OV.fieldAddr0 rfl e7) ?_
      refine wv (OV.load rfl (At.own 3 rfl) rfl a8) ?_
      obtain ⟨o_92', h⟩ := h
      refine wv (OV.add rfl rfl o_92') ?_
      refine wv (OV.nilCheck rfl) ?_
      refine wv (OV.fieldAddr0 rfl e7) ?_
      refine WL.store (vs := [zI ((c_1_4' + 1) + 1)]) (cs' := [w, zI ((c_1_4' + 1) + 1), zI c_2_4', zI c_3_5', zI c_4_5', w_21', w_20', zI 0]) 3 rfl rfl rfl rfl f9 (Nat.le_of_ble_eq_true rfl) rfl rfl rfl ?_
      refine WL.nil ?_
      refine kg (hK_97' [(2, zP b), (8, zP b_1'), (9, zP b_12')] _ ?_)
      refine a7 (fun _ hK_98' => ?_)
      refine a6 ?_
      refine wm ?_
      obtain ⟨o_93', h⟩ := h
      refine WL.pick (H' := [HA.blk b_1' (.cells [w, zI ((c_1_4' + 1) + 1), zI c_2_4', zI c_3_5', zI c_4_5', w_21', w_20', zI 0].toArray 62 (0, 0)), HA.row w 64 3 ((b9 text).1).length (((b9 text).1).flatMap e6), HA.row w_21' 69 4 l_9'.length (l_9'.flatMap ndC), pool c_4', HA.blk b_12' (.cells [zI ((((b9 text).1).getD ((c_1_4' + 1)).toNat default).2.1), st ((((b9 text).1).getD ((c_1_4' + 1)).toNat default).2.2), zI 0].toArray 43 (0, 0)), HA.row w_20' 43 3 l_8'.length (l_8'.flatMap rdC), HA.row (Value.slice none 0 0) 43 3 ([] : List RdV).length (([] : List RdV).flatMap rdC), HA.row (Value.slice none 0 0) 69 4 ([] : List NdV).length (([] : List NdV).flatMap ndC), HA.blk b (.cells [Value.slice none 0 0, Value.slice none 0 0, zI 0].toArray 32 (0, 0))]) [3, 4, 2, 8, 0, 1, 5, 6, 7] rfl rfl ?_
      refine WL.callS abb rfl (aao b_1' w ((b9 text).1) w_21' l_9' ((c_1_4' + 1) + 1) c_2_4' c_3_5' c_4_5' w_20' (0 : Int) c_4' ([61] : List UInt8) o_93') rfl trivial rfl rfl (fun r H' hS => ?_) (fun c H' hS => ?_)
      ·obtain ⟨k_16', op_16', er_16', ea_16', hc, ho⟩ := hS
       cases ho
       replace h := h k_16' op_16' er_16' ea_16' hc
       refine WL.nil ?_
       refine kg (hK_98' [(2, zP b), (8, zP b_1'), (9, zP b_12')] _ ?_)
       refine a7 (fun _ hK_99' => ?_)
       refine a6 ?_
       refine wm ?_
       obtain ⟨o_94', h⟩ := h
       obtain ⟨o_95', h⟩ := h
       refine WL.callS adb rfl (o_94' b_1' w w_21' l_9' op_16' ea_16' w_20' (0 : Int) c_4' o_95') rfl trivial rfl rfl (fun r H' hS => ?_) (fun c H' hS => ?_)
       ·obtain ⟨w_22', i_6', k_17', op_17', er_17', ea_17', nl_6', B_7', hc, ho⟩ := hS
        cases ho
        replace h := h i_6' k_17' op_17' er_17' ea_17' nl_6' B_7' hc
        refine wv (OV.fieldAddr0 rfl agu) ?_
        refine WL.store (vs := [zI i_6']) (cs' := [zI ((((b9 text).1).getD ((c_1_4' + 1)).toNat default).2.1), st ((((b9 text).1).getD ((c_1_4' + 1)).toNat default).2.2), zI i_6']) 4 rfl rfl rfl rfl f9 (Nat.le_of_ble_eq_true rfl) rfl rfl rfl ?_
        refine WL.nil ?_
        refine kg (hK_99' [(2, zP b), (8, zP b_1'), (9, zP b_12')] _ ?_)
        refine a7 (fun _ hK_100' => ?_)
        refine a6 ?_
        refine wm ?_
        obtain ⟨o_96', h⟩ := h
        refine WL.callS abb rfl (aao b_1' w ((b9 text).1) w_22' nl_6' k_17' op_17' er_17' ea_17' w_20' (0 : Int) B_7' ([59] : List UInt8) o_96') rfl trivial rfl rfl (fun r H' hS => ?_) (fun c H' hS => ?_)
        ·obtain ⟨k_18', op_18', er_18', ea_18', hc, ho⟩ := hS
         cases ho
         replace h := h k_18' op_18' er_18' ea_18' hc
         refine WL.nil ?_
         refine kg (hK_100' [(2, zP b), (8, zP b_1'), (9, zP b_12')] _ ?_)
         refine ah8 7 [0, 1, 2, 3, 4, 6, 7, 8] [HA.blk b_1' (.cells [w, zI k_18', zI op_18', zI er_18', zI ea_18', w_22', w_20', zI 0].toArray 62 (0, 0)), HA.row w 64 3 ((b9 text).1).length (((b9 text).1).flatMap e6), HA.row w_22' 69 4 nl_6'.length (nl_6'.flatMap ndC), pool B_7', HA.blk b_12' (.cells [zI ((((b9 text).1).getD ((c_1_4' + 1)).toNat default).2.1), st ((((b9 text).1).getD ((c_1_4' + 1)).toNat default).2.2), zI i_6'].toArray 43 (0, 0)), HA.row (Value.slice none 0 0) 43 3 ([] : List RdV).length (([] : List RdV).flatMap rdC), HA.row (Value.slice none 0 0) 69 4 ([] : List NdV).length (([] : List NdV).flatMap ndC), HA.blk b (.cells [Value.slice none 0 0, Value.slice none 0 0, zI 0].toArray 32 (0, 0))] rfl rfl f0 (by kernel_rfl) (fun T_26' hT_26' => ?_)
         refine TW.val (OV.move rfl) rfl rfl rfl ?_
         refine TW.val (OV.move rfl) rfl rfl rfl ?_
         refine TW.val (OV.nilCheck rfl) rfl rfl rfl ?_
         refine TW.val (OV.fieldAddr0 rfl y8) rfl rfl rfl ?_
         refine TW.val (OV.fieldAddr rfl y6) rfl rfl rfl ?_
         refine TW.val (OV.load rfl (At.own 0 rfl) rfl acg) rfl rfl rfl ?_
         refine TW.val (OV.loadR rfl (At.own 4 rfl) asr) rfl rfl rfl ?_
         refine TW.nil (hT_26' _ ?_)
         refine WLX.make (MV.buildSlice (cs := [zI ((((b9 text).1).getD ((c_1_4' + 1)).toNat default).2.1), st ((((b9 text).1).getD ((c_1_4' + 1)).toNat default).2.2), zI i_6']) rfl adx (by kernel_rfl)) [1, 2, 3, 4, 5, 7, 8, 9] rfl (fun _ => rfl) rfl rfl rfl (fun b_13' => ?_)
         obtain ⟨o_97', h⟩ := h
         refine WLX.valX (afy (f := rdC) (ms := [((((((b9 text).1).getD ((c_1_4' + 1)).toNat default).2.1), (((b9 text).1).getD ((c_1_4' + 1)).toNat default).2.2, i_6') : RdV)]) 6 0 rfl rfl rfl rfl rfl rfl aju (by decide) rfl adx aqv rfl o_97') [1, 2, 3, 4, 5, 7, 8, 9] rfl (fun _ _ e => by cases e; rfl) rfl rfl rfl (fun w_23' _ e => ?_)
         cases e
         refine WLX.op [1, 2, 3, 4, 5, 7, 8, 9] rfl rfl (OpK.val (OV.nilCheck rfl) rfl rfl) rfl ?_
         refine WLX.op [1, 2, 3, 4, 5, 7, 8, 9] rfl rfl (OpK.val (OV.fieldAddr0 rfl y8) rfl rfl) rfl ?_
         refine WLX.op [1, 2, 3, 4, 5, 7, 8, 9] rfl rfl (OpK.val (OV.fieldAddr rfl y6) rfl rfl) rfl ?_
         refine WLX.opZ (OpK.storeSl (cs' := [w, zI k_18', zI op_18', zI er_18', zI ea_18', w_22', w_23', zI 0]) 1 6 rfl rfl rfl rfl ap8 (Nat.le_of_ble_eq_true rfl) rfl) rfl ?_
         refine WLX.nil ?_
         exact kh (hK_86' (w_23', l_8' ++ [((((((b9 text).1).getD ((c_1_4' + 1)).toNat default).2.1), (((b9 text).1).getD ((c_1_4' + 1)).toNat default).2.2, i_6') : RdV)], w_22', nl_6', k_18', op_18', er_18', ea_18', B_7') h.1 h.2) [6, 3, 1, 2, 7, 8, 9, 4]
        ·obtain ⟨k_18', op_18', er_18', ea_18', hc, ho⟩ := hS
         cases ho
       ·obtain ⟨w_22', i_6', k_17', op_17', er_17', ea_17', nl_6', B_7', hc, ho⟩ := hS
        cases ho
      ·obtain ⟨k_16', op_16', er_16', ea_16', hc, ho⟩ := hS
       cases ho
    ·replace h := e9 h hb
     refine l4 ?_
     exact kh (hK_48' (c_1_4', c_2_4', c_3_5', c_4_5', w_21', l_9', c_4', w_20', l_8') h) [2, 3, 1, 7, 0, 4, 5, 6]
 ·obtain ⟨w, ho⟩ := hS
  cases ho
def RDs (B : List (Nat × Obj)) (ns : List NdV) : List t8 → List RdV → Prop
 | [], [] => True
 | d :: r, x :: s => (x.1 = d.1 ∧ x.2.1 = d.2.1 ∧ Nd B ns d.2.2 x.2.2) ∧ RDs B ns r s
 | _, _ => False
theorem RDs.more {B B2 : List (Nat × Obj)} (h : ∀ p ∈ B, p ∈ B2) (ns x : List NdV) : ∀ {l : List t8} {rs : List RdV}, RDs B ns l rs → RDs B2 (ns ++ x) l rs
 | [], [], _ => trivial
 | _ :: _, _ :: _, ⟨⟨h1, h2, h3⟩, h4⟩ => ⟨⟨h1, h2, Nd.more h _ _ _ _ h3⟩, h4.more h ns x⟩
 | [], _ :: _, h4 => h4.elim
 | _ :: _, [], h4 => h4.elim
theorem RDs.snoc {B : List (Nat × Obj)} {ns : List NdV} {d : t8} {j : Int} (hv : Nd B ns d.2.2 j) : ∀ {l : List t8} {rs : List RdV}, RDs B ns l rs → RDs B ns (l ++ [d]) (rs ++ [(d.1, d.2.1, j)])
 | [], [], _ => ⟨⟨rfl, rfl, hv⟩, trivial⟩
 | _ :: _, _ :: _, ⟨h1, h4⟩ => ⟨h1, h4.snoc hv⟩
 | [], _ :: _, h4 => h4.elim
 | _ :: _, [], h4 => h4.elim
theorem RDs.len {B : List (Nat × Obj)} {ns : List NdV} : ∀ {l : List t8} {rs : List RdV}, RDs B ns l rs → rs.length = l.length
 | [], [], _ => rfl
 | _ :: _, _ :: _, ⟨_, h4⟩ => by rw [List.length_cons, List.length_cons, h4.len]
 | [], _ :: _, h4 => h4.elim
 | _ :: _, [], h4 => h4.elim
def axz (B : List (Nat × Obj)) (wn wd : Value) (mn : Int) (ns : List NdV) (rs : List RdV) (l : List t8) (a : Ex) : Prop :=
 (∃ R, q8 wn 69 4 ns.length (ns.flatMap ndC) R ∧ ∀ p ∈ R, p ∈ B) ∧ (∃ R, q8 wd 43 3 rs.length (rs.flatMap rdC) R ∧ ∀ p ∈ R, p ∈ B) ∧ RDs B ns l rs ∧ Nd B ns a mn
def awv (t : Bs) (B : List (Nat × Obj)) (wn wd : Value) (mn e at0 : Int) (B2 : List (Nat × Obj)) : Prop := (∀ p ∈ B, p ∈ B2) ∧ (match u0 t with
 | .ok x => (e = 0 ∧ at0 = 0) ∧ ∃ ns rs, axz B2 wn wd mn ns rs x.1 x.2
 | .error y => (e = y.1 ∧ at0 = y.2) ∧ wn = anx ∧ wd = anx ∧ mn = 0)
theorem ajm (t : List UInt8) (B : List (Nat × Obj)) : d9 Tryd.prog 10 [st t] [] [pool B]
  (fun o => ∃ wn wd mn e at0 B2, awv t B wn wd mn e at0 B2 ∧ o = .ret (.tuple #[.agg [wn, wd, zI mn].toArray, .int .i64 e, .int .i64 at0]) [pool B2]) := by
 refine (atw t B (fun wn wd mn e at0 B2 => awv t B wn wd mn e at0 B2) ?_).weak ?_
 ·unfold aiz
  by_cases h0 : (b9 t).2.1 = 0
  ·rw [if_neg (by rw [h0]; decide)]
   have hP := amq h0
   have hS : u0 t = z8 (b9 t).1 := by unfold u0; rw [if_pos h0]
   unfold awv
   rw [hS]
   generalize (b9 t).1 = ts at hP ⊢
   obtain ⟨p1, p2, p3, p4, p5⟩ := hP
   have hp0 : RP ts 0 0 0 [] := ⟨Int.le_refl 0, by omega, Int.le_refl 0, by decide, p3, p4, p5, Int.le_refl 0⟩
   refine ⟨fun k o er ea ns B' rs => RP ts k o er ns ∧ (∀ p ∈ B, p ∈ B') ∧ (er = 0 → o = 0 ∧ ∃ l, z8 ts = apg ts (.ok (l, (k.toNat, 0))) ∧ RDs B' ns l rs) ∧ (er ≠ 0 → z8 ts = .error (er, ea)), fun k o er ea ns B' rs hj => ?_, ?_⟩
   ·obtain ⟨j1, j2, j3, j4⟩ := hj
    refine ⟨amu _ _ _ _, ⟨j1, by decide, by decide⟩, fun i k2 o2 er2 ea2 ns2 B2 hf => ?_⟩
    have hf : aad (sE ts 0 (k.toNat, o)) ts B' ns k o er ea i k2 o2 er2 ea2 ns2 B2 := hf
    by_cases he : er = 0
    ·subst he
     obtain ⟨rfl, l, i1, i2⟩ := j3 rfl
     obtain ⟨g, r⟩ := hf.zero
     have gb := g.rp
     obtain ⟨x, hx⟩ := g.ex
     unfold apg at i1
     dsimp only at i1
     refine ⟨fun e2 a2 => (e2 = 0 → er2 = 0 ∧ (b4 ts k2.toNat).1 = 0) ∧ (e2 ≠ 0 → z8 ts = .error (e2, a2)), fun e2 a2 hj => ?_, fun _ => ⟨gb.k0, gb.k1⟩, ?_⟩
     ·by_cases h2 : e2 = 0
      ·subst h2
       obtain ⟨rfl, h3⟩ := hj.1 rfl
       rw [if_neg (by decide)]
       intro w R hR w2 R2 hR2
       cases hq : sE ts 0 (k.toNat, 0) with
       | error y => rw [hq] at r; exact absurd r.1.symm (ai1 hq)
       | ok y =>
        obtain ⟨a, q⟩ := y
        rw [hq] at r i1
        obtain ⟨⟨_, r2, r3, r4⟩, hn⟩ := r
        have hq1 : q.1 = k2.toNat := by omega
        dsimp only at i1
        rw [hq1, if_pos h3] at i1
        rw [i1]
        refine ⟨fun p hp => List.mem_append_right _ (List.mem_append_right _ (g.sub p (j2 p hp))), ⟨rfl, rfl⟩, ns2, rs, ⟨R, hR, fun p hp => List.mem_append_right _ (List.mem_append_left _ hp)⟩, ⟨R2, hR2, fun p hp => List.mem_append_left _ hp⟩, ?_, ?_⟩
        ·subst hx
         exact i2.more (fun p hp => List.mem_append_right _ (List.mem_append_right _ (g.sub p hp))) ns x
        ·have := Nd.more (fun p hp => List.mem_append_right R2 (List.mem_append_right R hp)) ns2 [] _ _ hn
         rwa [List.append_nil] at this
      ·rw [if_pos (by rw [decide_eq_false h2]; rfl)]
       rw [hj.2 h2]
       exact ⟨fun p hp => g.sub p (j2 p hp), ⟨rfl, rfl⟩, rfl, rfl, rfl⟩
     ·by_cases hz : er2 = 0 ∧ ¬ (b4 ts k2.toNat).1 = 0
      ·obtain ⟨rfl, hz⟩ := hz
       rw [if_pos (by rw [Bool.and_eq_true, Bool.not_eq_true', decide_eq_true_eq, decide_eq_false_iff_not]; exact ⟨rfl, hz⟩)]
       rw [aqi, aqq]
       refine ⟨⟨gb.k0, gb.k1⟩, fun h => absurd h (by decide), fun _ => ?_⟩
       cases hq : sE ts 0 (k.toNat, 0) with
       | error y => rw [hq] at r; exact absurd r.1.symm (ai1 hq)
       | ok y =>
        obtain ⟨a, q⟩ := y
        rw [hq] at r i1
        have hq1 : q.1 = k2.toNat := by have := r.1.2.2.1; omega
        dsimp only at i1
        rw [hq1, if_neg hz] at i1
        exact i1
      ·rw [if_neg (by rw [Bool.and_eq_true, Bool.not_eq_true', decide_eq_true_eq, decide_eq_false_iff_not]; exact hz)]
       refine ⟨fun h => ⟨h, ?_⟩, fun h => ?_⟩
       ·apply Decidable.byContradiction
        intro h3; exact hz ⟨h, h3⟩
       ·cases hq : sE ts 0 (k.toNat, 0) with
        | error y => rw [hq] at r i1; rw [i1, r.1, r.2]
        | ok y => obtain ⟨a, q⟩ := y; rw [hq] at r; exact absurd r.1.1 h
    ·obtain ⟨rfl, rfl, rfl, rfl, rfl, rfl⟩ := hf.stay he
     refine ⟨fun e2 a2 => e2 = er2 ∧ a2 = ea2, fun e2 a2 hj => ?_, fun h => absurd (of_decide_eq_true h) he, ?_⟩
     ·obtain ⟨rfl, rfl⟩ := hj
      rw [if_pos (by rw [decide_eq_false he]; rfl), j4 he]
      exact ⟨j2, ⟨rfl, rfl⟩, rfl, rfl, rfl⟩
     ·rw [if_neg (by rw [decide_eq_false he, Bool.false_and]; decide)]
      exact ⟨rfl, rfl⟩
   ·refine ⟨fun rs ns k o er ea B' => Gr ts B [] 0 k o er ns B' ∧ (rs.length : Int) ≤ k ∧ (er = 0 → o = 0 ∧ ∃ f l, z8 ts = apg ts (pD ts (BIG ts) f l (k.toNat, 0)) ∧ RDs B' ns l rs ∧ (ts.length : Int) < f + k) ∧ (er ≠ 0 → z8 ts = .error (er, ea)), fun _ _ k _ _ _ _ => (ts.length - k).toNat, ⟨Gr.step hp0 (Int.le_refl 0), Int.le_refl 0, fun _ => ⟨rfl, BIG ts, [], ae0 ts, trivial, by unfold BIG; omega⟩, fun h => absurd rfl h⟩, ?_⟩
    rintro rs ns k o er ea B' ⟨g, hrs, i1, i2⟩
    have hb := g.rp
    have kk : 0 ≤ k ∧ k < (ts.length : Int) := ⟨hb.k0, hb.k1⟩
    have gr := g.rel
    refine ⟨fun _ => kk, fun _ => kk, ?_⟩
    by_cases he : er = 0
    ·subst he
     obtain ⟨rfl, f, l, e1, e2, e3⟩ := i1 rfl
     obtain ⟨f, rfl⟩ : ∃ q, f = q + 1 := ⟨f - 1, by omega⟩
     rw [if_pos rfl] at gr
     rw [ar2] at e1
     dsimp only at e1
     by_cases h1 : (b4 ts k.toNat).1 = 1 ∧ (b4 ts k.toNat).2.2 = [108, 101, 116]
     ·rw [if_pos (by rw [Bool.and_eq_true, Bool.and_eq_true, decide_eq_true_eq, decide_eq_true_eq, decide_eq_true_eq]; exact ⟨⟨rfl, h1.1⟩, h1.2⟩)]
      rw [if_pos h1] at e1
      have hl1 := hb.next (by rw [h1.1]; decide)
      have hk1 : (k + 1).toNat = k.toNat + 1 := by omega
      have hlen := hb.len
      have hnn := hb.nn
      rw [if_pos rfl] at hnn
      have hb1 : RP ts (k + 1) 0 0 ns := hb.at (by omega) hl1 hb.o0 hb.o1 (by rw [if_pos rfl]; omega)
      refine ⟨by unfold I64; omega, ⟨by omega, hl1⟩, ⟨by omega, hl1⟩, ⟨by omega, hl1⟩, ?_⟩
      by_cases h2 : (b4 ts (k.toNat + 1)).1 ≠ 1 ∨ d6 (b4 ts (k.toNat + 1)).2.2 ≠ 0
      ·rw [if_pos (by
        rw [hk1, Bool.or_eq_true, Bool.not_eq_true', Bool.not_eq_true', decide_eq_false_iff_not, decide_eq_false_iff_not]; exact h2)]
       rw [if_pos h2] at e1
       rw [aqi, aqq, hk1]
       exact ⟨⟨by omega, hl1⟩, hb1.fault (by decide), g.sub, fun h => absurd h (by decide), fun _ => e1⟩
      ·rw [if_neg (by
        rw [hk1, Bool.or_eq_true, Bool.not_eq_true', Bool.not_eq_true', decide_eq_false_iff_not, decide_eq_false_iff_not]; exact h2)]
       rw [if_neg h2] at e1
       have h3 : (b4 ts (k.toNat + 1)).1 = 1 := by
        apply Decidable.byContradiction
        intro h; exact h2 (.inl h)
       have hl2 : k + 1 + 1 < (ts.length : Int) := hb1.next (by rw [hk1, h3]; decide)
       have hb2 : RP ts (k + 1 + 1) 0 0 ns := hb.at (by omega) hl2 hb.o0 hb.o1 (by rw [if_pos rfl]; omega)
       have hk2 : (k + 1 + 1).toNat = k.toNat + 2 := by omega
       refine ⟨by unfold I64; omega, ⟨⟨by omega, hl2⟩, ⟨Int.le_refl 0, by decide⟩, hlen⟩, fun k3 o3 e3' a3 w3 => ?_⟩
       obtain ⟨r3, c3⟩ := am6 hb2 (ai0 (by decide) (by decide) hb2.k0 w3)
       rw [hk2] at c3
       have hle3 : k + 1 + 1 ≤ k3 := by rcases c3 with c | c <;> omega
       refine ⟨amu _ _ _ _, ⟨r3, by decide, by decide⟩, fun i k4 o4 e4 a4 ns4 B4 hf => ?_⟩
       have hf : aad (sE ts 0 (k3.toNat, o3)) ts B' ns k3 o3 e3' a3 i k4 o4 e4 a4 ns4 B4 := hf
       have hg4 : Gr ts B' ns k3 k4 o4 e4 ns4 B4 := by
        by_cases h4 : e3' = 0
        ·subst h4; exact hf.zero.1
        ·obtain ⟨rfl, rfl, rfl, rfl, rfl, rfl⟩ := hf.stay h4
         exact Gr.step r3 (Int.le_refl _)
       have hb4 := hg4.rp
       have hle4 := hg4.le
       have hrel4 := hg4.rel
       obtain ⟨x4, hx4⟩ := hg4.ex
       refine ⟨⟨⟨hb4.k0, hb4.k1⟩, ⟨hb4.o0, hb4.o1⟩, hlen⟩, fun k5 o5 e5 a5 w5 => ⟨⟨by omega, by omega⟩, ?_⟩⟩
       have hrl : ∀ y : RdV, ((rs ++ [y]).length : Int) = rs.length + 1 := fun y => by rw [List.length_append, List.length_singleton]; omega
       by_cases h4 : e4 = 0
       ·subst h4
        have h30 : e3' = 0 := by
         apply Decidable.byContradiction
         intro h; exact h ((hf.stay h).2.2.1 ▸ rfl)
        subst h30
        rcases c3 with ⟨_, wm, z3, z4, z5⟩ | ⟨hne, _⟩
        ·subst z4
         rw [wm] at e1
         dsimp only at e1
         obtain ⟨_, r4⟩ := hf.zero
         cases hq : sE ts 0 (k3.toNat, 0) with
         | error y => rw [hq] at r4; exact absurd r4.1.symm (ai1 hq)
         | ok y =>
          obtain ⟨a, q⟩ := y
          rw [hq] at r4 e1
          obtain ⟨⟨_, y2, y3, y4⟩, hn⟩ := r4
          have hpg := (acu hq).2.2
          dsimp only at hpg e1
          have hqq : q = (k4.toNat, o4) := Prod.ext (by dsimp only; omega) (by rw [y4])
          have ho4 : o4 = 0 := by rw [y4, hpg]
          subst ho4
          rw [hqq] at e1
          obtain ⟨r5, c5⟩ := am6 hb4 (ai0 (by decide) (by decide) hb4.k0 w5)
          have hle5 : k4 ≤ k5 := by rcases c5 with c | c <;> omega
          have G5 : Gr ts B [] 0 k5 o5 e5 ns4 B4 := by
           have hn4 := r5.nn
           refine ⟨r5, by omega, ⟨ns4, rfl⟩, fun p hp => hg4.sub p (g.sub p hp), ?_⟩
           show (ns4.length : Int) + 0 ≤ 0 + k5 + _
           omega
          refine ⟨⟨G5, by rw [hrl]; omega, fun h => ?_, fun h => ?_⟩, by show (ts.length - k5).toNat < (ts.length - k).toNat; omega⟩
          ·rcases c5 with ⟨_, wm5, v3, v4, v5⟩ | ⟨hne, _⟩
           ·rw [wm5] at e1
            dsimp only at e1
            subst v4
            refine ⟨rfl, f, _, e1, ?_, by omega⟩
            rw [hk1]
            subst hx4
            exact RDs.snoc (d := ((b4 ts (k.toNat + 1)).2.1, (b4 ts (k.toNat + 1)).2.2, a)) hn (e2.more hg4.sub ns x4)
           ·exact absurd h hne
          ·rcases c5 with ⟨hz, _⟩ | ⟨hne, wm5, v3, v4⟩
           ·exact absurd hz h
           ·rw [wm5] at e1
            exact e1
        ·exact absurd rfl hne
       ·obtain ⟨rfl, rfl, rfl, rfl⟩ := ajs h4 w5
        have herr : z8 ts = .error (e5, a5) := by
         by_cases h30 : e3' = 0
         ·subst h30
          rcases c3 with ⟨_, wm, z3, z4, z5⟩ | ⟨hne, _⟩
          ·subst z4
           rw [wm] at e1
           dsimp only at e1
           obtain ⟨_, r4⟩ := hf.zero
           cases hq : sE ts 0 (k3.toNat, 0) with
           | error y => rw [hq] at r4 e1; dsimp only at e1; rw [e1, r4.1, r4.2]; rfl
           | ok y => obtain ⟨a, q⟩ := y; rw [hq] at r4; exact absurd r4.1.1 h4
          ·exact absurd rfl hne
         ·obtain ⟨_, _, z1, z2, _, _⟩ := hf.stay h30
          rcases c3 with ⟨hz, _⟩ | ⟨hne, wm, _⟩
          ·exact absurd hz h30
          ·rw [wm] at e1
           rw [e1, z1, z2]; rfl
        have G5 : Gr ts B [] 0 k5 o5 e5 ns4 B4 := by
         have hn4 := hb4.nn
         refine ⟨hb4, by omega, ⟨ns4, rfl⟩, fun p hp => hg4.sub p (g.sub p hp), ?_⟩
         show (ns4.length : Int) + 0 ≤ 0 + k5 + _
         omega
        exact ⟨⟨G5, by rw [hrl]; omega, fun h => absurd h h4, fun _ => herr⟩, by show (ts.length - k5).toNat < (ts.length - k).toNat; omega⟩
     ·rw [if_neg (by rw [Bool.and_eq_true, Bool.and_eq_true, decide_eq_true_eq, decide_eq_true_eq, decide_eq_true_eq]; exact fun x => h1 ⟨x.1.2, x.2⟩)]
      rw [if_neg h1] at e1
      exact ⟨hb, g.sub, fun _ => ⟨rfl, l, e1, e2⟩, fun h => absurd rfl h⟩
    ·rw [if_neg (by rw [decide_eq_false he, Bool.false_and, Bool.false_and]; decide)]
     exact ⟨hb, g.sub, fun h => absurd h he, fun _ => i2 he⟩
  ·rw [if_pos (by rw [decide_eq_false h0]; rfl)]
   intro R hR R2 hR2
   unfold awv u0
   rw [if_neg h0]
   exact ⟨fun p hp => List.mem_append_right _ (List.mem_append_right _ hp), ⟨rfl, rfl⟩, rfl, rfl, rfl⟩
 ·rintro o (⟨wn, wd, mn, e, at0, B2, h1, rfl⟩ | h)
  ·exact ⟨wn, wd, mn, e, at0, B2, h1, rfl⟩
  ·exact h.elim
def abg (B : List (Nat × Obj)) (v pv : Value) (i : Int) : Prop := d9 Tryd.prog 11 [v, pv, .int .i64 i] (B ++ []) [] (Ret (.bool true) [])
theorem ahn {ns : List NdV} {i : Int} {d : NdV} (h : 0 ≤ i ∧ ns[i.toNat]? = some d) : (0 ≤ i ∧ i < (ns.length : Int)) ∧ ns.getD i.toNat default = d := by
 obtain ⟨h0, h1⟩ := h
 have : i.toNat < ns.length := by
  rcases Nat.lt_or_ge i.toNat ns.length with g | g
  ·exact g
  ·rw [List.getElem?_eq_none g] at h1; cases h1
 refine ⟨⟨h0, by omega⟩, ?_⟩
 rw [List.getD_eq_getElem?_getD, h1]; rfl
theorem x7.lin {B : List (Nat × Obj)} {v : Value} {js : List Int} (h : x7 B v js) : s9 v B js.length (js.flatMap z7) := by
 obtain ⟨R, h1, h2⟩ := h
 exact ⟨R, h1.inSl (aag ab6 js), h2⟩
theorem x7.one {B : List (Nat × Obj)} {v : Value} {js : List Int} (h : x7 B v js) : v.oneCell' = true := by
 obtain ⟨R, h1, _⟩ := h
 exact h1.one
theorem ass (t : List UInt8) (B : List (Nat × Obj)) (l : List t8) (a : Ex) (h : u0 t = .ok (l, a)) : d9 Tryd.prog 10 [st t] [] [pool B]
  (fun o => ∃ wn wd mn ns rs R B2, ((axz B2 wn wd mn ns rs l a ∧ q8 wd 43 3 rs.length (rs.flatMap rdC) R ∧ ∀ p ∈ R, p ∈ B2) ∧ ∀ x ∈ B, x ∈ B2) ∧ o = .ret (.tuple #[.agg [wn, wd, zI mn].toArray, .int .i64 0, .int .i64 0]) [pool B2]) :=
 (ajm t B).weak fun o ho => by
  obtain ⟨wn, wd, mn, e, at0, B2, ⟨h1, h2⟩, rfl⟩ := ho
  rw [h] at h2
  obtain ⟨⟨rfl, rfl⟩, ns, rs, h3⟩ := h2
  obtain ⟨R, h4, h5⟩ := h3.2.1
  exact ⟨wn, wd, mn, ns, rs, R, B2, ⟨⟨h3, h4, h5⟩, h1⟩, rfl⟩
theorem aqn (t : List UInt8) (B : List (Nat × Obj)) (c p : Int) (h : u0 t = .error (c, p)) : d9 Tryd.prog 10 [st t] [] [pool B]
  (fun o => ∃ B2, True ∧ o = .ret (.tuple #[.agg [anx, anx, zI 0].toArray, .int .i64 c, .int .i64 p]) [pool B2]) :=
 (ajm t B).weak fun o ho => by
  obtain ⟨wn, wd, mn, e, at0, B2, ⟨h1, h2⟩, rfl⟩ := ho
  rw [h] at h2
  obtain ⟨⟨rfl, rfl⟩, rfl, rfl, rfl⟩ := h2
  exact ⟨B2, trivial, rfl⟩
end Go.Proofs.YtifajndacnfcbaaDoor
set_option maxRecDepth 100000
namespace Go.Proofs.YtifajndacnfcbaaDoor
open Go Go.RowKit
theorem acd : RowT Tryd.prog 69 4 := ⟨by kernel_rfl, by kernel_rfl⟩
theorem abw : ab0 Tryd.prog 69 = some [zI 0, zI 0, st [], Value.slice none 0 0] := by kernel_rfl
theorem abv : o8 Tryd.prog 69 4 = true := by kernel_rfl
theorem y7 : f6 Tryd.prog 69 0 = some 0 := by kernel_rfl
theorem aay : f6 Tryd.prog 69 2 = some 2 := by kernel_rfl
theorem y9 : f6 Tryd.prog 69 3 = some 3 := by kernel_rfl
theorem abx : aal Tryd.prog 67 = true := by kernel_rfl
section
variable {wn dv : Value} {mn : Int} {B : List (Nat × Obj)} {ns : List NdV}
variable (hN : s9 wn B ns.length (ns.flatMap ndC))
include hN
end
theorem RDs.at {B : List (Nat × Obj)} {ns : List NdV} : ∀ {l : List t8} {ds : List RdV} {i : Nat}, RDs B ns l ds → i < l.length → (ds.getD i default).1 = (l.getD i default).1 ∧ (ds.getD i default).2.1 = (l.getD i default).2.1 ∧ Nd B ns (l.getD i default).2.2 (ds.getD i default).2.2
 | d :: r, x :: s, 0, h, _ => h.1
 | d :: r, x :: s, i + 1, h, hi => by
  show (s.getD i default).1 = (r.getD i default).1 ∧ (s.getD i default).2.1 = (r.getD i default).2.1 ∧ Nd B ns (r.getD i default).2.2 (s.getD i default).2.2
  exact RDs.at h.2 (Nat.lt_of_succ_lt_succ hi)
 | d :: r, [], _, h, _ => h.elim
end Go.Proofs.YtifajndacnfcbaaDoor
