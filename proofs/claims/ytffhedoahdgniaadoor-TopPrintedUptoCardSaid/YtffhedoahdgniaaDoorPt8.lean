/-
  Merged: RfC, RfE.
-/
import Derived.Test.YtffhedoahdgniaaDoorPt7
set_option maxRecDepth 100000
namespace Go.Proofs.YtffhedoahdgniaaDoor
open Go Go.RowKit
theorem af1 : abz Tryd.prog 32 = some [Value.slice none 0 0, zI 0] := by kernel_rfl
theorem aah : s7 Tryd.prog 32 2 = true := by kernel_rfl
theorem x4 : RowT Tryd.prog 32 2 := ⟨by kernel_rfl, by kernel_rfl⟩
theorem apd : r8 Tryd.prog 14 = true := by kernel_rfl
theorem al2 : afn Tryd.prog 54 = some ([zI 0, zI 0, zI 0, zU 0, zI 0, zI 0], 6, 48) := by kernel_rfl
theorem aio : s7 Tryd.prog 50 1 = true := by kernel_rfl
theorem axn : r8 Tryd.prog 15 = true := by kernel_rfl
theorem av1 : r8 Tryd.prog 16 = true := by kernel_rfl
theorem akf : r8 Tryd.prog 17 = true := by kernel_rfl
theorem awl : s7 Tryd.prog 5 1 = true := by kernel_rfl
theorem axx : r8 Tryd.prog 20 = true := by kernel_rfl
theorem aoh : m5 Tryd.prog 54 0 = some 0 := by kernel_rfl
theorem axr : r8 Tryd.prog 21 = true := by kernel_rfl
theorem ah5 : m5 Tryd.prog 32 1 = some 1 := by kernel_rfl
def akc (text : List UInt8) (K : (List ND) → Int → Int → Int → Prop) : Prop :=
 (if (decide (1048576 < (text.length : Int))) = true then
  K ([] : List ND) 0 1 0
 else
  (((([] : List FR).length + 1) + (([] : List FR).length + 1) / 4 + 192) * 48 ≤ 281474976710656 ∧ ([] : List FR).length + 1 ≤ 9223372036854775807) ∧
  ∃ (Inv : Int → (List FR) → (List ND) → Prop) (mu : Int → (List FR) → (List ND) → Nat),
   Inv 0 (([] : List FR) ++ [((-1), (-1), (-1), 0, (-1), (-1))]) [] ∧ ∀ (i_1' : Int) (l_2' : List FR) (l_3' : List ND), Inv i_1' l_2' l_3' →
    (if (decide (i_1' < (text.length : Int))) = true then
     (0 ≤ i_1' ∧ i_1' < text.length) ∧
     (I64 ((l_2'.length : Int) - 1)) ∧
     (0 ≤ ((l_2'.length : Int) - 1) ∧ ((l_2'.length : Int) - 1) < (l_2'.length : Int)) ∧
     (if (ama ((text.getD i_1'.toNat 0).toNat : Int)) = true then
      (if (decide ((l_2'.getD (((l_2'.length : Int) - 1)).toNat default).2.2.2.2.2 < 0)) = true then
       K ([] : List ND) 0 20 i_1'
      else
       (I64 (i_1' + 1)) ∧
       ∃ (J0_6' : Int → Prop),
        (∀ (m_8' : Int), J0_6' m_8' →
         ∃ (J0_7' : Int → Prop),
          (∀ (n_16' : Int), J0_7' n_16' →
           ∃ (J0_8' : Int → Int → Int → Prop),
            (∀ (m_10' : Int) (n_18' : Int) (next_2' : Int), J0_8' m_10' n_18' next_2' →
             (((l_3'.length + 1) + (l_3'.length + 1) / 4 + 192) * 296 ≤ 281474976710656 ∧ l_3'.length + 1 ≤ 9223372036854775807) ∧
             (I64 (((l_3' ++ [(7, (fun _ => false), ((l_2'.getD (((l_2'.length : Int) - 1)).toNat default).2.2.2.2.2), 0, m_10', n_18')]).length : Int) - 1)) ∧
             Inv next_2' (l_2'.set ((((l_2'.length : Int) - 1)).toNat) ((l_2'.getD (((l_2'.length : Int) - 1)).toNat default).1, (l_2'.getD (((l_2'.length : Int) - 1)).toNat default).2.1, (l_2'.getD (((l_2'.length : Int) - 1)).toNat default).2.2.1, (l_2'.getD (((l_2'.length : Int) - 1)).toNat default).2.2.2.1, (l_2'.getD (((l_2'.length : Int) - 1)).toNat default).2.2.2.2.1, ((l_3' ++ [(7, (fun _ => false), ((l_2'.getD (((l_2'.length : Int) - 1)).toNat default).2.2.2.2.2), 0, m_10', n_18')]).length : Int) - 1)) (l_3' ++ [(7, (fun _ => false), ((l_2'.getD (((l_2'.length : Int) - 1)).toNat default).2.2.2.2.2), 0, m_10', n_18')]) ∧ mu next_2' (l_2'.set ((((l_2'.length : Int) - 1)).toNat) ((l_2'.getD (((l_2'.length : Int) - 1)).toNat default).1, (l_2'.getD (((l_2'.length : Int) - 1)).toNat default).2.1, (l_2'.getD (((l_2'.length : Int) - 1)).toNat default).2.2.1, (l_2'.getD (((l_2'.length : Int) - 1)).toNat default).2.2.2.1, (l_2'.getD (((l_2'.length : Int) - 1)).toNat default).2.2.2.2.1, ((l_3' ++ [(7, (fun _ => false), ((l_2'.getD (((l_2'.length : Int) - 1)).toNat default).2.2.2.2.2), 0, m_10', n_18')]).length : Int) - 1)) (l_3' ++ [(7, (fun _ => false), ((l_2'.getD (((l_2'.length : Int) - 1)).toNat default).2.2.2.2.2), 0, m_10', n_18')]) < mu i_1' l_2' l_3') ∧
            (if (decide (((text.getD i_1'.toNat 0).toNat : Int) = 123)) = true then
             (0 ≤ i_1' ∧ i_1' < (text.length : Int) ∧ text.length ≤ 1048576) ∧
             (∀ (m_11' : Int) (n_19' : Int) (k_5' : Int) (e_5' : Int) (p_5' : Int), BrR text i_1' m_11' n_19' k_5' e_5' p_5' →
              (if (!decide (e_5' = 0)) = true then
               K ([] : List ND) 0 e_5' p_5'
              else
               J0_8' m_11' n_19' k_5'))
            else
             J0_8' m_8' n_16' (i_1' + 1))) ∧
          (if (decide (((text.getD i_1'.toNat 0).toNat : Int) = 63)) = true then
           J0_7' 1
          else
           J0_7' (-1))) ∧
        (if (decide (((text.getD i_1'.toNat 0).toNat : Int) = 43)) = true then
         J0_6' (-2)
        else
         J0_6' 0))
     else
      (if (decide (((text.getD i_1'.toNat 0).toNat : Int) = 124)) = true then
       (l_3'.length ≤ 10000000 ∧ 0 < l_2'.length ∧ l_2'.length ≤ 10000) ∧
       (∀ (n_20' : List ND) (f_8' : List FR), am7 l_3' l_2' n_20' f_8' →
        (I64 (i_1' + 1)) ∧
        Inv (i_1' + 1) f_8' n_20' ∧ mu (i_1' + 1) f_8' n_20' < mu i_1' l_2' l_3')
      else
       (if ((decide (((text.getD i_1'.toNat 0).toNat : Int) = 38)) || (decide (((text.getD i_1'.toNat 0).toNat : Int) = 45))) = true then
        (l_3'.length ≤ 10000000 ∧ 0 < l_2'.length ∧ l_2'.length ≤ 10000) ∧
        (∀ (n_21' : List ND) (f_9' : List FR), avs l_3' l_2' n_21' f_9' →
         (I64 ((f_9'.length : Int) - 1)) ∧
         (0 ≤ ((f_9'.length : Int) - 1) ∧ ((f_9'.length : Int) - 1) < (f_9'.length : Int)) ∧
         (I64 (i_1' + 1)) ∧
         Inv (i_1' + 1) (f_9'.set ((((f_9'.length : Int) - 1)).toNat) ((f_9'.getD (((f_9'.length : Int) - 1)).toNat default).1, (f_9'.getD (((f_9'.length : Int) - 1)).toNat default).2.1, (f_9'.getD (((f_9'.length : Int) - 1)).toNat default).2.2.1, ((text.getD i_1'.toNat 0).toNat : Int), (f_9'.getD (((f_9'.length : Int) - 1)).toNat default).2.2.2.2.1, (f_9'.getD (((f_9'.length : Int) - 1)).toNat default).2.2.2.2.2)) n_21' ∧ mu (i_1' + 1) (f_9'.set ((((f_9'.length : Int) - 1)).toNat) ((f_9'.getD (((f_9'.length : Int) - 1)).toNat default).1, (f_9'.getD (((f_9'.length : Int) - 1)).toNat default).2.1, (f_9'.getD (((f_9'.length : Int) - 1)).toNat default).2.2.1, ((text.getD i_1'.toNat 0).toNat : Int), (f_9'.getD (((f_9'.length : Int) - 1)).toNat default).2.2.2.2.1, (f_9'.getD (((f_9'.length : Int) - 1)).toNat default).2.2.2.2.2)) n_21' < mu i_1' l_2' l_3')
       else
        (if (decide (((text.getD i_1'.toNat 0).toNat : Int) = 41)) = true then
         (if (decide ((l_2'.length : Int) = 1)) = true then
          K ([] : List ND) 0 20 i_1'
         else
          (l_3'.length ≤ 10000000 ∧ 0 < l_2'.length ∧ l_2'.length ≤ 10000) ∧
          (∀ (n_22' : List ND) (f_10' : List FR), am7 l_3' l_2' n_22' f_10' →
           (I64 ((f_10'.length : Int) - 1)) ∧
           (0 ≤ ((f_10'.length : Int) - 1) ∧ ((f_10'.length : Int) - 1) < (f_10'.length : Int)) ∧
           (I64 ((f_10'.length : Int) - 1)) ∧
           (0 ≤ ((f_10'.length : Int) - 1) ∧ ((f_10'.length : Int) - 1) ≤ (f_10'.length : Int)) ∧
           (I64 (((f_10'.take ((((f_10'.length : Int) - 1)).toNat)).length : Int) - 1)) ∧
           (0 ≤ (((f_10'.take ((((f_10'.length : Int) - 1)).toNat)).length : Int) - 1) ∧ (((f_10'.take ((((f_10'.length : Int) - 1)).toNat)).length : Int) - 1) < ((f_10'.take ((((f_10'.length : Int) - 1)).toNat)).length : Int)) ∧
           (I64 (i_1' + 1)) ∧
           Inv (i_1' + 1) ((f_10'.take ((((f_10'.length : Int) - 1)).toNat)).set (((((f_10'.take ((((f_10'.length : Int) - 1)).toNat)).length : Int) - 1)).toNat) (((f_10'.take ((((f_10'.length : Int) - 1)).toNat)).getD ((((f_10'.take ((((f_10'.length : Int) - 1)).toNat)).length : Int) - 1)).toNat default).1, ((f_10'.take ((((f_10'.length : Int) - 1)).toNat)).getD ((((f_10'.take ((((f_10'.length : Int) - 1)).toNat)).length : Int) - 1)).toNat default).2.1, ((f_10'.take ((((f_10'.length : Int) - 1)).toNat)).getD ((((f_10'.take ((((f_10'.length : Int) - 1)).toNat)).length : Int) - 1)).toNat default).2.2.1, ((f_10'.take ((((f_10'.length : Int) - 1)).toNat)).getD ((((f_10'.take ((((f_10'.length : Int) - 1)).toNat)).length : Int) - 1)).toNat default).2.2.2.1, ((f_10'.take ((((f_10'.length : Int) - 1)).toNat)).getD ((((f_10'.take ((((f_10'.length : Int) - 1)).toNat)).length : Int) - 1)).toNat default).2.2.2.2.1, (f_10'.getD (((f_10'.length : Int) - 1)).toNat default).2.1)) n_22' ∧ mu (i_1' + 1) ((f_10'.take ((((f_10'.length : Int) - 1)).toNat)).set (((((f_10'.take ((((f_10'.length : Int) - 1)).toNat)).length : Int) - 1)).toNat) (((f_10'.take ((((f_10'.length : Int) - 1)).toNat)).getD ((((f_10'.take ((((f_10'.length : Int) - 1)).toNat)).length : Int) - 1)).toNat default).1, ((f_10'.take ((((f_10'.length : Int) - 1)).toNat)).getD ((((f_10'.take ((((f_10'.length : Int) - 1)).toNat)).length : Int) - 1)).toNat default).2.1, ((f_10'.take ((((f_10'.length : Int) - 1)).toNat)).getD ((((f_10'.take ((((f_10'.length : Int) - 1)).toNat)).length : Int) - 1)).toNat default).2.2.1, ((f_10'.take ((((f_10'.length : Int) - 1)).toNat)).getD ((((f_10'.take ((((f_10'.length : Int) - 1)).toNat)).length : Int) - 1)).toNat default).2.2.2.1, ((f_10'.take ((((f_10'.length : Int) - 1)).toNat)).getD ((((f_10'.take ((((f_10'.length : Int) - 1)).toNat)).length : Int) - 1)).toNat default).2.2.2.2.1, (f_10'.getD (((f_10'.length : Int) - 1)).toNat default).2.1)) n_22' < mu i_1' l_2' l_3'))
        else
         (l_3'.length ≤ 10000000 ∧ 0 < l_2'.length ∧ l_2'.length ≤ 10000) ∧
         (∀ (n_23' : List ND) (f_11' : List FR), alp l_3' l_2' n_23' f_11' →
          (if (decide (((text.getD i_1'.toNat 0).toNat : Int) = 40)) = true then
           (if (decide (1000 < (f_11'.length : Int))) = true then
            K ([] : List ND) 0 23 i_1'
           else
            (((f_11'.length + 1) + (f_11'.length + 1) / 4 + 192) * 48 ≤ 281474976710656 ∧ f_11'.length + 1 ≤ 9223372036854775807) ∧
            (I64 (i_1' + 1)) ∧
            Inv (i_1' + 1) (f_11' ++ [(i_1', (-1), (-1), 0, (-1), (-1))]) n_23' ∧ mu (i_1' + 1) (f_11' ++ [(i_1', (-1), (-1), 0, (-1), (-1))]) n_23' < mu i_1' l_2' l_3')
          else
           (text.length ≤ 9223372036854775807) ∧
           (∀ (s_2' : Nat → Bool), (∀ j, j < 256 → s_2' j = (l8 text i_1').1.getLsbD j) →
            (if (!decide ((l8 text i_1').2.2.1 = 0)) = true then
             K ([] : List ND) 0 ((l8 text i_1').2.2.1) ((l8 text i_1').2.2.2)
            else
             (((n_23'.length + 1) + (n_23'.length + 1) / 4 + 192) * 296 ≤ 281474976710656 ∧ n_23'.length + 1 ≤ 9223372036854775807) ∧
             (I64 ((f_11'.length : Int) - 1)) ∧
             (I64 (((n_23' ++ [(1, s_2', 0, 0, 0, 0)]).length : Int) - 1)) ∧
             (0 ≤ ((f_11'.length : Int) - 1) ∧ ((f_11'.length : Int) - 1) < (f_11'.length : Int)) ∧
             Inv ((l8 text i_1').2.1) (f_11'.set ((((f_11'.length : Int) - 1)).toNat) ((f_11'.getD (((f_11'.length : Int) - 1)).toNat default).1, (f_11'.getD (((f_11'.length : Int) - 1)).toNat default).2.1, (f_11'.getD (((f_11'.length : Int) - 1)).toNat default).2.2.1, (f_11'.getD (((f_11'.length : Int) - 1)).toNat default).2.2.2.1, (f_11'.getD (((f_11'.length : Int) - 1)).toNat default).2.2.2.2.1, ((n_23' ++ [(1, s_2', 0, 0, 0, 0)]).length : Int) - 1)) (n_23' ++ [(1, s_2', 0, 0, 0, 0)]) ∧ mu ((l8 text i_1').2.1) (f_11'.set ((((f_11'.length : Int) - 1)).toNat) ((f_11'.getD (((f_11'.length : Int) - 1)).toNat default).1, (f_11'.getD (((f_11'.length : Int) - 1)).toNat default).2.1, (f_11'.getD (((f_11'.length : Int) - 1)).toNat default).2.2.1, (f_11'.getD (((f_11'.length : Int) - 1)).toNat default).2.2.2.1, (f_11'.getD (((f_11'.length : Int) - 1)).toNat default).2.2.2.2.1, ((n_23' ++ [(1, s_2', 0, 0, 0, 0)]).length : Int) - 1)) (n_23' ++ [(1, s_2', 0, 0, 0, 0)]) < mu i_1' l_2' l_3'))))))))
    else
     (if (decide (1 < (l_2'.length : Int))) = true then
      (I64 ((l_2'.length : Int) - 1)) ∧
      (0 ≤ ((l_2'.length : Int) - 1) ∧ ((l_2'.length : Int) - 1) < (l_2'.length : Int)) ∧
      K ([] : List ND) 0 21 ((l_2'.getD (((l_2'.length : Int) - 1)).toNat default).1)
     else
      (l_3'.length ≤ 10000000 ∧ 0 < l_2'.length ∧ l_2'.length ≤ 10000) ∧
      (∀ (n_24' : List ND) (f_12' : List FR), am7 l_3' l_2' n_24' f_12' →
       (0 ≤ (0 : Int) ∧ (0 : Int) < (f_12'.length : Int)) ∧
       (n_24'.length ≤ 10000000 ∧ NOK n_24') ∧
       (∀ (z : List Int), at5 n_24' z →
        (0 ≤ ((f_12'.getD ((0 : Int)).toNat default).2.1) ∧ ((f_12'.getD ((0 : Int)).toNat default).2.1) < (z.length : Int)) ∧
        (if (decide (2000 < (z.getD (((f_12'.getD ((0 : Int)).toNat default).2.1)).toNat default))) = true then
         K ([] : List ND) 0 24 0
        else
         (ajy n_24' ((f_12'.getD ((0 : Int)).toNat default).2.1) ([] : List ND)) ∧
         (∀ (l_4' : List ND) (r : Int), ah2 n_24' ((f_12'.getD ((0 : Int)).toNat default).2.1) ([] : List ND) l_4' r →
          K l_4' r 0 0)))))))
theorem axc  (text : List UInt8) (K : (List ND) → Int → Int → Int → Prop) (h : akc text K) :
  d5 Tryd.prog 6 [st text] [] [] (fun o => (∃ (w_29' : Value) (v_1' : List ND) (v_1 : Int) (v_2' : Int) (v_3' : Int), K v_1' v_1 v_2' v_3' ∧ o = .ret (Value.tuple #[Value.agg [w_29', zI v_1].toArray, zI v_2', zI v_3']) [HA.row w_29' 63 261 v_1'.length (v_1'.flatMap ndC)]) ∨ (False)) := by
 unfold akc at h
 refine c8 (n := 310) (L0 := [(0, st text)]) Tryd.func6 rfl rfl rfl rfl (fun w0 M Q hE => ?_)
 refine a6 (fun _ hK => ?_)
 refine a4 ?_
 refine WL.make (MV.alloc af1) rfl rfl rfl (fun b => ?_)
 refine WL.nilRow 63 261 ndC ?_
 refine wa ?_
 refine wa ?_
 refine WL.nil ?_
 refine kg (hK [(0, st text), (2, zP b)] _ ?_)
 refine a6 (fun _ hK_1' => ?_)
 refine a6 (fun _ hK_2' => ?_)
 refine a4 ?_
 refine wm ?_
 refine wv (OV.len rfl j7) ?_
 refine wv (OV.gtr rfl rfl) ?_
 refine WL.nil ?_
 refine kg (hK_2' [(0, st text), (2, zP b), (23, zB (decide (1048576 < (text.length : Int))))] _ ?_)
 refine b6 (b := decide (1048576 < (text.length : Int))) rfl (fun hb => ?_) (fun hb => ?_)
 ·replace h := j4 h hb
  refine a6 (fun _ hK_3' => ?_)
  refine a4 ?_
  refine wv (OV.build rfl (cs := [Value.slice none 0 0, zI 0]) rfl) ?_
  refine WL.storeW (vs := [Value.slice none 0 0, zI 0]) 1 rfl rfl rfl rfl rfl aah rfl rfl rfl ?_
  refine wa ?_
  refine wa ?_
  refine WL.nil ?_
  refine kg (hK_3' [(2, zP b), (3, zI 1), (4, zI 0)] _ ?_)
  refine c9 ?_
  refine QX.nilRow 63 261 ndC ?_
  exact hE.ret [0] rfl rfl (.inl ⟨_, _, _, _, _, h, rfl⟩) (f9.of3 rfl (RV.row rfl (At.own 2 rfl) x4) (RV.tmp rfl) (RV.tmp rfl))
 ·replace h := j5 h hb
  refine b7 ?_
  refine kg (hK_1' [(0, st text), (2, zP b)] _ ?_)
  refine a6 (fun _ hK_4' => ?_)
  refine a4 ?_
  refine wv (OV.build rfl (cs := [Value.slice none 0 0, Value.slice none 0 0]) rfl) ?_
  refine WL.make (MV.box (cs := [Value.slice none 0 0, Value.slice none 0 0]) rfl rfl) rfl rfl rfl (fun b_1' => ?_)
  refine WL.nilRow 63 261 ndC ?_
  refine WL.nilRow 54 6 frC ?_
  refine wa ?_
  refine WL.nil ?_
  refine kg (hK_4' [(0, st text), (2, zP b), (5, zP b_1')] _ ?_)
  refine a6 (fun _ hK_5' => ?_)
  refine x1 5 [1, 2, 3, 4] [HA.row (Value.slice none 0 0) 63 261 ([] : List ND).length (([] : List ND).flatMap ndC), HA.blk b_1' (.cells [Value.slice none 0 0, Value.slice none 0 0].toArray 52 (0, 0)), HA.row (Value.slice none 0 0) 63 261 ([] : List ND).length (([] : List ND).flatMap ndC), HA.blk b (.cells [Value.slice none 0 0, zI 0].toArray 32 (0, 0))] rfl rfl g8 (by kernel_rfl) (fun T hT => ?_)
  refine TW.val (OV.move rfl) rfl rfl rfl ?_
  refine TW.val (OV.move rfl) rfl rfl rfl ?_
  refine TW.val (OV.nilCheck rfl) rfl rfl rfl ?_
  refine TW.val (OV.fieldAddr0 rfl j6) rfl rfl rfl ?_
  refine TW.val (OV.load rfl (At.own 1 rfl) rfl n6) rfl rfl rfl ?_
  refine TW.nil (hT _ ?_)
  refine WLX.callS [1, 2, 3, 4] rfl (EN.fn apd rfl) rfl (an3 (-1)) rfl rfl trivial rfl rfl (fun r H' hS => ?_) (fun c H' hS => ?_)
  rotate_left
  ·cases hS
  cases hS
  refine WLX.make (MV.buildSlice (cs := [zI (-1), zI (-1), zI (-1), zU 0, zI (-1), zI (-1)]) rfl o7 (by kernel_rfl)) [2, 3, 4, 5] rfl (fun _ => rfl) rfl rfl rfl (fun b_2' => ?_)
  obtain ⟨o, h⟩ := h
  refine WLX.valX (ach (f := frC) (ms := [((-1), (-1), (-1), 0, (-1), (-1))]) 1 0 rfl rfl rfl rfl rfl rfl n8 (by decide) rfl o7 al2 rfl o) [2, 3, 4, 5] rfl (fun _ _ e => by cases e; rfl) rfl rfl rfl (fun w _ e => ?_)
  cases e
  refine WLX.op [2, 3, 4, 5] rfl rfl (OpK.val (OV.nilCheck rfl) rfl rfl) rfl ?_
  refine WLX.op [2, 3, 4, 5] rfl rfl (OpK.val (OV.fieldAddr0 rfl j6) rfl rfl) rfl ?_
  refine WLX.opZ (OpK.storeSl (cs' := [Value.slice none 0 0, w]) 3 1 rfl rfl rfl rfl aio (Nat.le_of_ble_eq_true rfl) rfl) rfl ?_
  refine WLX.nil ?_
  refine kg (hK_5' [(0, st text), (2, zP b), (5, zP b_1')] _ ?_)
  refine a6 (fun _ hK_6' => ?_)
  refine a4 ?_
  refine wa ?_
  refine WL.nil ?_
  refine kg (hK_6' [(0, st text), (2, zP b), (5, zP b_1'), (6, zI 0)] _ ?_)
  refine a6 (fun _ hK_7' => ?_)
  refine d6 ?_
  refine WC.pick (H' := [HA.row w 54 6 (([] : List FR) ++ [((-1), (-1), (-1), 0, (-1), (-1))]).length ((([] : List FR) ++ [((-1), (-1), (-1), 0, (-1), (-1))]).flatMap frC), HA.row (Value.slice none 0 0) 63 261 ([] : List ND).length (([] : List ND).flatMap ndC), HA.blk b_1' (.cells [Value.slice none 0 0, w].toArray 52 (0, 0)), HA.row (Value.slice none 0 0) 63 261 ([] : List ND).length (([] : List ND).flatMap ndC), HA.blk b (.cells [Value.slice none 0 0, zI 0].toArray 32 (0, 0))]) [1, 2, 3, 4, 5] rfl rfl ?_
  obtain ⟨Inv, mu, h0, hr⟩ := h
  refine w9 (S := Int × Value × (List FR) × Value × (List ND)) (fun σ => Inv σ.1 σ.2.2.1 σ.2.2.2.2) (fun σ => mu σ.1 σ.2.2.1 σ.2.2.2.2) (fun σ => [(0, st text), (2, zP b), (5, zP b_1'), (6, zI σ.1)]) (fun σ => [HA.row σ.2.1 54 6 σ.2.2.1.length (σ.2.2.1.flatMap frC), HA.row σ.2.2.2.1 63 261 σ.2.2.2.2.length (σ.2.2.2.2.flatMap ndC), HA.blk b_1' (.cells [σ.2.2.2.1, σ.2.1].toArray 52 (0, 0)), HA.row (Value.slice none 0 0) 63 261 ([] : List ND).length (([] : List ND).flatMap ndC), HA.blk b (.cells [Value.slice none 0 0, zI 0].toArray 32 (0, 0))]) (0, w, ([] : List FR) ++ [((-1), (-1), (-1), 0, (-1), (-1))], Value.slice none 0 0, []) h0 ⟨rfl, rfl, rfl, rfl, trivial⟩ rfl ?_
  rintro ⟨i_1', w_17', l_2', w_18', l_3'⟩ hi K0_136' hK_136'
  have h := hr i_1' l_2' l_3' hi
  show WC _ _ _ _ [(0, st text), (2, zP b), (5, zP b_1'), (6, zI i_1')] [HA.row w_17' 54 6 l_2'.length (l_2'.flatMap frC), HA.row w_18' 63 261 l_3'.length (l_3'.flatMap ndC), HA.blk b_1' (.cells [w_18', w_17'].toArray 52 (0, 0)), HA.row (Value.slice none 0 0) 63 261 ([] : List ND).length (([] : List ND).flatMap ndC), HA.blk b (.cells [Value.slice none 0 0, zI 0].toArray 32 (0, 0))]
  refine a6 (fun _ hK_137' => ?_)
  refine a6 (fun _ hK_138' => ?_)
  refine a4 ?_
  refine wm ?_
  refine wm ?_
  refine wv (OV.len rfl j7) ?_
  refine wv (OV.lss rfl rfl) ?_
  refine WL.nil ?_
  refine kg (hK_138' [(0, st text), (2, zP b), (5, zP b_1'), (6, zI i_1'), (40, zB (decide (i_1' < (text.length : Int))))] _ ?_)
  refine b6 (b := decide (i_1' < (text.length : Int))) rfl (fun hb => ?_) (fun hb => ?_)
  ·replace h := j4 h hb
   refine b7 ?_
   refine kg (hK_137' [(0, st text), (2, zP b), (5, zP b_1'), (6, zI i_1')] _ ?_)
   refine d6 ?_
   refine a6 (fun _ hK_139' => ?_)
   refine a4 ?_
   refine wm ?_
   refine wm ?_
   obtain ⟨o_58', h⟩ := h
   refine wv (OV.index rfl rfl j7 o_58') ?_
   refine wa ?_
   refine WL.nil ?_
   refine kg (hK_139' [(0, st text), (2, zP b), (5, zP b_1'), (6, zI i_1'), (7, zU ((text.getD i_1'.toNat 0).toNat : Int))] _ ?_)
   refine a6 (fun _ hK_140' => ?_)
   refine q9 10 [] g8 (by kernel_rfl) rfl (fun T_19' hT_19' => ?_)
   refine fv (fun _ => OV.move rfl) ?_
   refine fv (fun _ => OV.nilCheck rfl) ?_
   refine fv (fun _ => OV.fieldAddr0 rfl j6) ?_
   refine fv (fun _ => OV.load rfl (At.own 2 rfl) rfl n6) ?_
   refine fv (fun _ => OV.move rfl) ?_
   refine fv (fun _ => OV.nilCheck rfl) ?_
   refine fv (fun _ => OV.fieldAddr0 rfl j6) ?_
   refine fv (fun _ => OV.load rfl (At.own 2 rfl) rfl n6) ?_
   refine fv (fun _ => OV.lenRow 0 rfl rfl o7) ?_
   obtain ⟨o_59', h⟩ := h
   refine fv (fun _ => OV.sub rfl rfl o_59') ?_
   refine FL.weak (L' := fun γ => [(0, st text), (2, zP b), (5, zP b_1'), (6, zI i_1'), (7, zU ((text.getD i_1'.toNat 0).toNat : Int)), (47, w_17'), (53, zI ((l_2'.length : Int) - 1))]) (fun γ => ⟨rfl, rfl, rfl, rfl, rfl, rfl, rfl, trivial⟩) (FL.nil (hT_19' (fun γ => [(0, st text), (2, zP b), (5, zP b_1'), (6, zI i_1'), (7, zU ((text.getD i_1'.toNat 0).toNat : Int)), (47, w_17'), (53, zI ((l_2'.length : Int) - 1))]) (fun γ => ?_)))
   obtain ⟨o_60', h⟩ := h
   refine wv (OV.indexRow 0 rfl rfl rfl o7 o_60') ?_
   refine wa ?_
   refine WL.nil ?_
   refine kg (hK_140' [(0, st text), (2, zP b), (5, zP b_1'), (6, zI i_1'), (7, zU ((text.getD i_1'.toNat 0).toNat : Int)), (8, Value.pointer (some ⟨(n9 w_17'), (((l_2'.length : Int) - 1)).toNat * 6, none⟩))] _ ?_)
   refine a6 (fun _ hK_141' => ?_)
   refine a6 (fun _ hK_142' => ?_)
   refine a4 ?_
   refine wm ?_
   refine WL.call (A := []) axn rfl (aq0 ((text.getD i_1'.toNat 0).toNat : Int)) rfl trivial rfl rfl ?_
   refine WL.nil ?_
   refine kg (hK_142' [(0, st text), (2, zP b), (5, zP b_1'), (6, zI i_1'), (7, zU ((text.getD i_1'.toNat 0).toNat : Int)), (8, Value.pointer (some ⟨(n9 w_17'), (((l_2'.length : Int) - 1)).toNat * 6, none⟩)), (56, zB (ama ((text.getD i_1'.toNat 0).toNat : Int)))] _ ?_)
   refine b6 (b := ama ((text.getD i_1'.toNat 0).toNat : Int)) rfl (fun hb => ?_) (fun hb => ?_)
   ·replace h := j4 h hb
    refine a6 (fun _ hK_143' => ?_)
    refine a6 (fun _ hK_144' => ?_)
    refine a4 ?_
    refine wm ?_
    refine wv (OV.nilCheck rfl) ?_
    refine wv (OV.fieldAddr rfl x8) ?_
    refine wv (OV.loadEF (f := frC) (o := 5) 0 rfl rfl n8 (by omega) rfl b5) ?_
    refine wv (OV.lss rfl rfl) ?_
    refine WL.nil ?_
    refine kg (hK_144' [(0, st text), (2, zP b), (5, zP b_1'), (6, zI i_1'), (7, zU ((text.getD i_1'.toNat 0).toNat : Int)), (8, Value.pointer (some ⟨(n9 w_17'), (((l_2'.length : Int) - 1)).toNat * 6, none⟩)), (61, zB (decide ((l_2'.getD (((l_2'.length : Int) - 1)).toNat default).2.2.2.2.2 < 0)))] _ ?_)
    refine b6 (b := decide ((l_2'.getD (((l_2'.length : Int) - 1)).toNat default).2.2.2.2.2 < 0)) rfl (fun hb => ?_) (fun hb => ?_)
    ·replace h := j4 h hb
     refine a6 (fun _ hK_145' => ?_)
     refine a4 ?_
     refine wv (OV.build rfl (cs := [Value.slice none 0 0, zI 0]) rfl) ?_
     refine wm ?_
     refine WL.storeW (vs := [Value.slice none 0 0, zI 0]) 4 rfl rfl rfl rfl rfl aah rfl rfl rfl ?_
     refine wa ?_
     refine wa ?_
     refine WL.nil ?_
     refine kg (hK_145' [(2, zP b), (3, zI 20), (4, zI i_1')] _ ?_)
     refine c9 ?_
     refine QX.nilRow 63 261 ndC ?_
     exact hE.ret [0] rfl rfl (.inl ⟨_, _, _, _, _, h, rfl⟩) (f9.of3 rfl (RV.row rfl (At.own 5 rfl) x4) (RV.tmp rfl) (RV.tmp rfl))
    ·replace h := j5 h hb
     refine b7 ?_
     refine kg (hK_143' [(0, st text), (2, zP b), (5, zP b_1'), (6, zI i_1'), (7, zU ((text.getD i_1'.toNat 0).toNat : Int)), (8, Value.pointer (some ⟨(n9 w_17'), (((l_2'.length : Int) - 1)).toNat * 6, none⟩))] _ ?_)
     refine a6 (fun _ hK_146' => ?_)
     refine a4 ?_
     refine wm ?_
     obtain ⟨o_61', h⟩ := h
     refine wv (OV.add rfl rfl o_61') ?_
     refine wa ?_
     refine wa ?_
     refine wa ?_
     refine WL.nil ?_
     refine kg (hK_146' [(0, st text), (2, zP b), (5, zP b_1'), (6, zI i_1'), (7, zU ((text.getD i_1'.toNat 0).toNat : Int)), (8, Value.pointer (some ⟨(n9 w_17'), (((l_2'.length : Int) - 1)).toNat * 6, none⟩)), (9, zI 0), (10, zI (-1)), (11, zI (i_1' + 1))] _ ?_)
     obtain ⟨J0_6', hJ_6', h⟩ := h
     refine n5 (X := Int) (fun σ => J0_6' σ) (fun σ => [(0, st text), (2, zP b), (5, zP b_1'), (6, zI i_1'), (7, zU ((text.getD i_1'.toNat 0).toNat : Int)), (8, Value.pointer (some ⟨(n9 w_17'), (((l_2'.length : Int) - 1)).toNat * 6, none⟩)), (9, zI σ), (10, zI (-1)), (11, zI (i_1' + 1))]) (fun σ => [HA.row w_17' 54 6 l_2'.length (l_2'.flatMap frC), HA.row w_18' 63 261 l_3'.length (l_3'.flatMap ndC), HA.blk b_1' (.cells [w_18', w_17'].toArray 52 (0, 0)), HA.row (Value.slice none 0 0) 63 261 ([] : List ND).length (([] : List ND).flatMap ndC), HA.blk b (.cells [Value.slice none 0 0, zI 0].toArray 32 (0, 0))]) ?_ (fun K0_148' hK_148' => ?_)
     ·rintro m_8' hj
      replace h := hJ_6' m_8' hj
      show WC _ _ _ _ [(0, st text), (2, zP b), (5, zP b_1'), (6, zI i_1'), (7, zU ((text.getD i_1'.toNat 0).toNat : Int)), (8, Value.pointer (some ⟨(n9 w_17'), (((l_2'.length : Int) - 1)).toNat * 6, none⟩)), (9, zI m_8'), (10, zI (-1)), (11, zI (i_1' + 1))] [HA.row w_17' 54 6 l_2'.length (l_2'.flatMap frC), HA.row w_18' 63 261 l_3'.length (l_3'.flatMap ndC), HA.blk b_1' (.cells [w_18', w_17'].toArray 52 (0, 0)), HA.row (Value.slice none 0 0) 63 261 ([] : List ND).length (([] : List ND).flatMap ndC), HA.blk b (.cells [Value.slice none 0 0, zI 0].toArray 32 (0, 0))]
      obtain ⟨J0_7', hJ_7', h⟩ := h
      refine n5 (X := Int) (fun σ => J0_7' σ) (fun σ => [(0, st text), (2, zP b), (5, zP b_1'), (6, zI i_1'), (7, zU ((text.getD i_1'.toNat 0).toNat : Int)), (8, Value.pointer (some ⟨(n9 w_17'), (((l_2'.length : Int) - 1)).toNat * 6, none⟩)), (9, zI m_8'), (10, zI σ), (11, zI (i_1' + 1))]) (fun σ => [HA.row w_17' 54 6 l_2'.length (l_2'.flatMap frC), HA.row w_18' 63 261 l_3'.length (l_3'.flatMap ndC), HA.blk b_1' (.cells [w_18', w_17'].toArray 52 (0, 0)), HA.row (Value.slice none 0 0) 63 261 ([] : List ND).length (([] : List ND).flatMap ndC), HA.blk b (.cells [Value.slice none 0 0, zI 0].toArray 32 (0, 0))]) ?_ (fun K0_150' hK_150' => ?_)
      ·rintro n_16' hj
       replace h := hJ_7' n_16' hj
       show WC _ _ _ _ [(0, st text), (2, zP b), (5, zP b_1'), (6, zI i_1'), (7, zU ((text.getD i_1'.toNat 0).toNat : Int)), (8, Value.pointer (some ⟨(n9 w_17'), (((l_2'.length : Int) - 1)).toNat * 6, none⟩)), (9, zI m_8'), (10, zI n_16'), (11, zI (i_1' + 1))] [HA.row w_17' 54 6 l_2'.length (l_2'.flatMap frC), HA.row w_18' 63 261 l_3'.length (l_3'.flatMap ndC), HA.blk b_1' (.cells [w_18', w_17'].toArray 52 (0, 0)), HA.row (Value.slice none 0 0) 63 261 ([] : List ND).length (([] : List ND).flatMap ndC), HA.blk b (.cells [Value.slice none 0 0, zI 0].toArray 32 (0, 0))]
       obtain ⟨J0_8', hJ_8', h⟩ := h
       refine n5 (X := Int × Int × Int) (fun σ => J0_8' σ.1 σ.2.1 σ.2.2) (fun σ => [(0, st text), (2, zP b), (5, zP b_1'), (8, Value.pointer (some ⟨(n9 w_17'), (((l_2'.length : Int) - 1)).toNat * 6, none⟩)), (9, zI σ.1), (10, zI σ.2.1), (11, zI σ.2.2)]) (fun σ => [HA.row w_17' 54 6 l_2'.length (l_2'.flatMap frC), HA.row w_18' 63 261 l_3'.length (l_3'.flatMap ndC), HA.blk b_1' (.cells [w_18', w_17'].toArray 52 (0, 0)), HA.row (Value.slice none 0 0) 63 261 ([] : List ND).length (([] : List ND).flatMap ndC), HA.blk b (.cells [Value.slice none 0 0, zI 0].toArray 32 (0, 0))]) ?_ (fun K0_156' hK_156' => ?_)
       ·rintro ⟨m_10', n_18', next_2'⟩ hj
        replace h := hJ_8' m_10' n_18' next_2' hj
        show WC _ _ _ _ [(0, st text), (2, zP b), (5, zP b_1'), (8, Value.pointer (some ⟨(n9 w_17'), (((l_2'.length : Int) - 1)).toNat * 6, none⟩)), (9, zI m_10'), (10, zI n_18'), (11, zI next_2')] [HA.row w_17' 54 6 l_2'.length (l_2'.flatMap frC), HA.row w_18' 63 261 l_3'.length (l_3'.flatMap ndC), HA.blk b_1' (.cells [w_18', w_17'].toArray 52 (0, 0)), HA.row (Value.slice none 0 0) 63 261 ([] : List ND).length (([] : List ND).flatMap ndC), HA.blk b (.cells [Value.slice none 0 0, zI 0].toArray 32 (0, 0))]
        refine a6 (fun _ hK_157' => ?_)
        refine x1 12 [0, 2, 3, 4] [HA.row w_17' 54 6 l_2'.length (l_2'.flatMap frC), HA.blk b_1' (.cells [w_18', w_17'].toArray 52 (0, 0)), HA.row (Value.slice none 0 0) 63 261 ([] : List ND).length (([] : List ND).flatMap ndC), HA.blk b (.cells [Value.slice none 0 0, zI 0].toArray 32 (0, 0))] rfl rfl g8 (by kernel_rfl) (fun T_20' hT_20' => ?_)
        refine TW.val (OV.move rfl) rfl rfl rfl ?_
        refine TW.val (OV.move rfl) rfl rfl rfl ?_
        refine TW.val (OV.nilCheck rfl) rfl rfl rfl ?_
        refine TW.val (OV.fieldAddr0 rfl v7) rfl rfl rfl ?_
        refine TW.val (OV.load rfl (At.own 1 rfl) rfl v8) rfl rfl rfl ?_
        refine TW.val (OV.move rfl) rfl rfl rfl ?_
        refine TW.val (OV.nilCheck rfl) rfl rfl rfl ?_
        refine TW.val (OV.fieldAddr rfl x8) rfl rfl rfl ?_
        refine TW.val (OV.loadEF (f := frC) (o := 5) 0 rfl rfl n8 (by omega) rfl b5) rfl rfl rfl ?_
        refine TW.val (OV.move rfl) rfl rfl rfl ?_
        refine TW.val (OV.move rfl) rfl rfl rfl ?_
        refine TW.val (OV.build rfl (cs := ndC (7, (fun _ => false), ((l_2'.getD (((l_2'.length : Int) - 1)).toNat default).2.2.2.2.2), 0, m_10', n_18')) (by kernel_rfl)) rfl rfl rfl ?_
        refine TW.nil (hT_20' _ ?_)
        refine WLX.make (MV.buildSlice1 (cs := ndC (7, (fun _ => false), ((l_2'.getD (((l_2'.length : Int) - 1)).toNat default).2.2.2.2.2), 0, m_10', n_18')) rfl rfl p9 ace (s6 _) (s6 _)) [1, 3, 4, 5] rfl (fun _ => rfl) rfl rfl rfl (fun b_11' => ?_)
        obtain ⟨o_63', h⟩ := h
        refine WLX.valX (ach (f := ndC) (ms := [(7, (fun _ => false), ((l_2'.getD (((l_2'.length : Int) - 1)).toNat default).2.2.2.2.2), 0, m_10', n_18')]) 2 0 rfl rfl rfl rfl (agu _ _) rfl s6 (by decide) (afr (7, (fun _ => false), ((l_2'.getD (((l_2'.length : Int) - 1)).toNat default).2.2.2.2.2), 0, m_10', n_18')) p9 aec rfl o_63') [1, 3, 4, 5] rfl (fun _ _ e => by cases e; rfl) rfl rfl rfl (fun w_19' _ e => ?_)
        cases e
        refine WLX.op [1, 3, 4, 5] rfl rfl (OpK.val (OV.nilCheck rfl) rfl rfl) rfl ?_
        refine WLX.op [1, 3, 4, 5] rfl rfl (OpK.val (OV.fieldAddr0 rfl v7) rfl rfl) rfl ?_
        refine WLX.opZ (OpK.storeSl (cs' := [w_19', w_17']) 3 2 rfl rfl rfl rfl ad8 (Nat.le_of_ble_eq_true rfl) rfl) rfl ?_
        refine WLX.nil ?_
        refine kg (hK_157' [(0, st text), (2, zP b), (5, zP b_1'), (8, Value.pointer (some ⟨(n9 w_17'), (((l_2'.length : Int) - 1)).toNat * 6, none⟩)), (11, zI next_2')] _ ?_)
        refine a6 (fun _ hK_158' => ?_)
        refine a4 ?_
        refine wm ?_
        refine wm ?_
        refine wv (OV.nilCheck rfl) ?_
        refine wv (OV.fieldAddr0 rfl v7) ?_
        refine wv (OV.load rfl (At.own 3 rfl) rfl v8) ?_
        refine wv (OV.lenRow 2 rfl rfl p9) ?_
        obtain ⟨o_64', h⟩ := h
        refine wv (OV.sub rfl rfl o_64') ?_
        refine wv (OV.nilCheck rfl) ?_
        refine wv (OV.fieldAddr rfl x8) ?_
        refine WL.storeEF (f := frC) (o := 5) (z := ((l_2'.getD (((l_2'.length : Int) - 1)).toNat default).1, (l_2'.getD (((l_2'.length : Int) - 1)).toNat default).2.1, (l_2'.getD (((l_2'.length : Int) - 1)).toNat default).2.2.1, (l_2'.getD (((l_2'.length : Int) - 1)).toNat default).2.2.2.1, (l_2'.getD (((l_2'.length : Int) - 1)).toNat default).2.2.2.2.1, ((l_3' ++ [(7, (fun _ => false), ((l_2'.getD (((l_2'.length : Int) - 1)).toNat default).2.2.2.2.2), 0, m_10', n_18')]).length : Int) - 1)) 1 rfl rfl rfl n8 (by omega) (by decide) rfl g9 rfl rfl rfl ?_
        refine WL.nil ?_
        refine kg (hK_158' [(0, st text), (2, zP b), (5, zP b_1'), (11, zI next_2')] _ ?_)
        refine a6 (fun _ hK_159' => ?_)
        refine a4 ?_
        refine wm ?_
        refine wa ?_
        refine WL.nil ?_
        refine kg (hK_159' [(0, st text), (2, zP b), (5, zP b_1'), (6, zI next_2')] _ ?_)
        refine s5 ?_
        exact kh (hK_136' (next_2', w_17', l_2'.set ((((l_2'.length : Int) - 1)).toNat) ((l_2'.getD (((l_2'.length : Int) - 1)).toNat default).1, (l_2'.getD (((l_2'.length : Int) - 1)).toNat default).2.1, (l_2'.getD (((l_2'.length : Int) - 1)).toNat default).2.2.1, (l_2'.getD (((l_2'.length : Int) - 1)).toNat default).2.2.2.1, (l_2'.getD (((l_2'.length : Int) - 1)).toNat default).2.2.2.2.1, ((l_3' ++ [(7, (fun _ => false), ((l_2'.getD (((l_2'.length : Int) - 1)).toNat default).2.2.2.2.2), 0, m_10', n_18')]).length : Int) - 1), w_19', l_3' ++ [(7, (fun _ => false), ((l_2'.getD (((l_2'.length : Int) - 1)).toNat default).2.2.2.2.2), 0, m_10', n_18')]) h.1 h.2) [1, 2, 3, 4, 5]
       ·skip
        refine a6 (fun _ hK_160' => ?_)
        refine a4 ?_
        refine wm ?_
        refine wv (OV.eql rfl rfl) ?_
        refine WL.nil ?_
        refine kg (hK_160' [(0, st text), (2, zP b), (5, zP b_1'), (6, zI i_1'), (8, Value.pointer (some ⟨(n9 w_17'), (((l_2'.length : Int) - 1)).toNat * 6, none⟩)), (9, zI m_8'), (10, zI n_16'), (11, zI (i_1' + 1)), (71, zB (decide (((text.getD i_1'.toNat 0).toNat : Int) = 123)))] _ ?_)
        refine b6 (b := decide (((text.getD i_1'.toNat 0).toNat : Int) = 123)) rfl (fun hb => ?_) (fun hb => ?_)
        ·replace h := j4 h hb
         refine a6 (fun _ hK_161' => ?_)
         refine a4 ?_
         refine wa ?_
         refine wa ?_
         refine WL.nil ?_
         refine kg (hK_161' [(0, st text), (2, zP b), (5, zP b_1'), (6, zI i_1'), (8, Value.pointer (some ⟨(n9 w_17'), (((l_2'.length : Int) - 1)).toNat * 6, none⟩))] _ ?_)
         refine a6 (fun _ hK_162' => ?_)
         refine a4 ?_
         refine wm ?_
         refine wm ?_
         obtain ⟨o_65', h⟩ := h
         refine WL.callS av1 rfl (ap5 text i_1' o_65') rfl trivial rfl rfl (fun r H' hS => ?_) (fun c H' hS => ?_)
         ·obtain ⟨m_11', n_19', k_5', e_5', p_5', hc, ho⟩ := hS
          cases ho
          replace h := h m_11' n_19' k_5' e_5' p_5' hc
          refine wm ?_
          refine wv (OV.extract 0 rfl rfl) ?_
          refine wv (OV.extract 1 rfl rfl) ?_
          refine wv (OV.extract 2 rfl rfl) ?_
          refine wv (OV.extract 3 rfl rfl) ?_
          refine wv (OV.extract 4 rfl rfl) ?_
          refine wa ?_
          refine wa ?_
          refine wa ?_
          refine wa ?_
          refine wa ?_
          refine WL.nil ?_
          refine kg (hK_162' [(0, st text), (2, zP b), (5, zP b_1'), (8, Value.pointer (some ⟨(n9 w_17'), (((l_2'.length : Int) - 1)).toNat * 6, none⟩)), (9, zI m_11'), (10, zI n_19'), (11, zI k_5'), (12, zI e_5'), (13, zI p_5')] _ ?_)
          refine a6 (fun _ hK_163' => ?_)
          refine a4 ?_
          refine wm ?_
          refine wv (OV.neq rfl rfl) ?_
          refine WL.nil ?_
          refine kg (hK_163' [(0, st text), (2, zP b), (5, zP b_1'), (8, Value.pointer (some ⟨(n9 w_17'), (((l_2'.length : Int) - 1)).toNat * 6, none⟩)), (9, zI m_11'), (10, zI n_19'), (11, zI k_5'), (12, zI e_5'), (13, zI p_5'), (82, zB (!decide (e_5' = 0)))] _ ?_)
          refine b6 (b := !decide (e_5' = 0)) rfl (fun hb => ?_) (fun hb => ?_)
          ·replace h := j4 h hb
           refine a6 (fun _ hK_164' => ?_)
           refine a4 ?_
           refine wv (OV.build rfl (cs := [Value.slice none 0 0, zI 0]) rfl) ?_
           refine wm ?_
           refine wm ?_
           refine WL.storeW (vs := [Value.slice none 0 0, zI 0]) 4 rfl rfl rfl rfl rfl aah rfl rfl rfl ?_
           refine wa ?_
           refine wa ?_
           refine WL.nil ?_
           refine kg (hK_164' [(2, zP b), (3, zI e_5'), (4, zI p_5')] _ ?_)
           refine c9 ?_
           refine QX.nilRow 63 261 ndC ?_
           exact hE.ret [0] rfl rfl (.inl ⟨_, _, _, _, _, h, rfl⟩) (f9.of3 rfl (RV.row rfl (At.own 5 rfl) x4) (RV.tmp rfl) (RV.tmp rfl))
          ·replace h := j5 h hb
           refine b7 ?_
           exact kh (hK_156' (m_11', n_19', k_5') h) [0, 1, 2, 3, 4]
         ·obtain ⟨m_11', n_19', k_5', e_5', p_5', hc, ho⟩ := hS
          cases ho
        ·replace h := j5 h hb
         refine b7 ?_
         exact kh (hK_156' (m_8', n_16', i_1' + 1) h) [0, 1, 2, 3, 4]
      ·skip
       refine a6 (fun _ hK_165' => ?_)
       refine a4 ?_
       refine wm ?_
       refine wv (OV.eql rfl rfl) ?_
       refine WL.nil ?_
       refine kg (hK_165' [(0, st text), (2, zP b), (5, zP b_1'), (6, zI i_1'), (7, zU ((text.getD i_1'.toNat 0).toNat : Int)), (8, Value.pointer (some ⟨(n9 w_17'), (((l_2'.length : Int) - 1)).toNat * 6, none⟩)), (9, zI m_8'), (10, zI (-1)), (11, zI (i_1' + 1)), (69, zB (decide (((text.getD i_1'.toNat 0).toNat : Int) = 63)))] _ ?_)
       refine b6 (b := decide (((text.getD i_1'.toNat 0).toNat : Int) = 63)) rfl (fun hb => ?_) (fun hb => ?_)
       ·replace h := j4 h hb
        refine a4 ?_
        refine wa ?_
        refine WL.nil ?_
        exact kh (hK_150' 1 h) [0, 1, 2, 3, 4]
       ·replace h := j5 h hb
        refine b7 ?_
        exact kh (hK_150' (-1) h) [0, 1, 2, 3, 4]
     ·skip
      refine a6 (fun _ hK_166' => ?_)
      refine a4 ?_
      refine wm ?_
      refine wv (OV.eql rfl rfl) ?_
      refine WL.nil ?_
      refine kg (hK_166' [(0, st text), (2, zP b), (5, zP b_1'), (6, zI i_1'), (7, zU ((text.getD i_1'.toNat 0).toNat : Int)), (8, Value.pointer (some ⟨(n9 w_17'), (((l_2'.length : Int) - 1)).toNat * 6, none⟩)), (9, zI 0), (10, zI (-1)), (11, zI (i_1' + 1)), (67, zB (decide (((text.getD i_1'.toNat 0).toNat : Int) = 43)))] _ ?_)
      refine b6 (b := decide (((text.getD i_1'.toNat 0).toNat : Int) = 43)) rfl (fun hb => ?_) (fun hb => ?_)
      ·replace h := j4 h hb
       refine a4 ?_
       refine wa ?_
       refine WL.nil ?_
       exact kh (hK_148' (-2) h) [0, 1, 2, 3, 4]
      ·replace h := j5 h hb
       refine b7 ?_
       exact kh (hK_148' 0 h) [0, 1, 2, 3, 4]
   ·replace h := j5 h hb
    refine b7 ?_
    refine kg (hK_141' [(0, st text), (2, zP b), (5, zP b_1'), (6, zI i_1'), (7, zU ((text.getD i_1'.toNat 0).toNat : Int))] _ ?_)
    refine a6 (fun _ hK_167' => ?_)
    refine a6 (fun _ hK_168' => ?_)
    refine a4 ?_
    refine wm ?_
    refine wv (OV.eql rfl rfl) ?_
    refine WL.nil ?_
    refine kg (hK_168' [(0, st text), (2, zP b), (5, zP b_1'), (6, zI i_1'), (7, zU ((text.getD i_1'.toNat 0).toNat : Int)), (113, zB (decide (((text.getD i_1'.toNat 0).toNat : Int) = 124)))] _ ?_)
    refine b6 (b := decide (((text.getD i_1'.toNat 0).toNat : Int) = 124)) rfl (fun hb => ?_) (fun hb => ?_)
    ·replace h := j4 h hb
     refine a6 (fun _ hK_169' => ?_)
     refine a4 ?_
     refine wm ?_
     obtain ⟨o_66', h⟩ := h
     refine WL.pick (H' := [HA.blk b_1' (.cells [w_18', w_17'].toArray 52 (0, 0)), HA.row w_18' 63 261 l_3'.length (l_3'.flatMap ndC), HA.row w_17' 54 6 l_2'.length (l_2'.flatMap frC), HA.row (Value.slice none 0 0) 63 261 ([] : List ND).length (([] : List ND).flatMap ndC), HA.blk b (.cells [Value.slice none 0 0, zI 0].toArray 32 (0, 0))]) [2, 1, 0, 3, 4] rfl rfl ?_
     refine WL.callS akf rfl (agr b_1' w_18' l_3' w_17' l_2' o_66') rfl trivial rfl rfl (fun r H' hS => ?_) (fun c H' hS => ?_)
     ·obtain ⟨w_20', n_20', f_8', hc, ho⟩ := hS
      cases ho
      replace h := h n_20' f_8' hc
      refine WL.nil ?_
      refine kg (hK_169' [(0, st text), (2, zP b), (5, zP b_1'), (6, zI i_1')] _ ?_)
      refine a6 (fun _ hK_170' => ?_)
      refine a4 ?_
      refine wm ?_
      obtain ⟨o_67', h⟩ := h
      refine wv (OV.add rfl rfl o_67') ?_
      refine wa ?_
      refine WL.nil ?_
      refine kg (hK_170' [(0, st text), (2, zP b), (5, zP b_1'), (6, zI (i_1' + 1))] _ ?_)
      refine s5 ?_
      exact kh (hK_136' (i_1' + 1, w_17', f_8', w_20', n_20') h.1 h.2) [2, 1, 0, 3, 4]
     ·obtain ⟨w_20', n_20', f_8', hc, ho⟩ := hS
      cases ho
    ·replace h := j5 h hb
     refine b7 ?_
     refine kg (hK_167' [(0, st text), (2, zP b), (5, zP b_1'), (6, zI i_1'), (7, zU ((text.getD i_1'.toNat 0).toNat : Int))] _ ?_)
     refine a6 (fun _ hK_171' => ?_)
     refine a6 (fun _ hK_172' => ?_)
     refine a4 ?_
     refine wm ?_
     refine wv (OV.eql rfl rfl) ?_
     refine wm ?_
     refine WL.cut 3 [(0, st text), (2, zP b), (5, zP b_1'), (6, zI i_1'), (7, zU ((text.getD i_1'.toNat 0).toNat : Int)), (123, zB ((decide (((text.getD i_1'.toNat 0).toNat : Int) = 38)) || (decide (((text.getD i_1'.toNat 0).toNat : Int) = 45))))] ?_ (fun K0_173' hK_173' => ?_)
     rotate_left
     ·refine WL.split (decide (((text.getD i_1'.toNat 0).toNat : Int) = 38)) (fun hb => ?_) (fun hb => ?_)
      ·refine WL.set 120 rfl (congrArg zB hb) ?_
       refine wk ?_
       refine wk ?_
       refine wv (OV.pickT rfl rfl) ?_
       refine WL.set 123 rfl (oT (v := decide (((text.getD i_1'.toNat 0).toNat : Int) = 45)) hb) ?_
       exact WL.end_ (kg hK_173')
      ·refine WL.set 120 rfl (congrArg zB hb) ?_
       refine wm ?_
       refine wv (OV.eql rfl rfl) ?_
       refine wv (OV.pickF rfl rfl) ?_
       refine WL.set 123 rfl (oF (v := decide (((text.getD i_1'.toNat 0).toNat : Int) = 45)) hb) ?_
       exact WL.end_ (kg hK_173')
     refine WL.nil ?_
     refine kg (hK_172' [(0, st text), (2, zP b), (5, zP b_1'), (6, zI i_1'), (7, zU ((text.getD i_1'.toNat 0).toNat : Int)), (123, zB ((decide (((text.getD i_1'.toNat 0).toNat : Int) = 38)) || (decide (((text.getD i_1'.toNat 0).toNat : Int) = 45))))] _ ?_)
     refine b6 (b := (decide (((text.getD i_1'.toNat 0).toNat : Int) = 38)) || (decide (((text.getD i_1'.toNat 0).toNat : Int) = 45))) rfl (fun hb => ?_) (fun hb => ?_)
     ·replace h := j4 h hb
      refine a6 (fun _ hK_174' => ?_)
      refine a4 ?_
      refine wm ?_
      obtain ⟨o_69', h⟩ := h
      refine WL.pick (H' := [HA.blk b_1' (.cells [w_18', w_17'].toArray 52 (0, 0)), HA.row w_18' 63 261 l_3'.length (l_3'.flatMap ndC), HA.row w_17' 54 6 l_2'.length (l_2'.flatMap frC), HA.row (Value.slice none 0 0) 63 261 ([] : List ND).length (([] : List ND).flatMap ndC), HA.blk b (.cells [Value.slice none 0 0, zI 0].toArray 32 (0, 0))]) [2, 1, 0, 3, 4] rfl rfl ?_
      refine WL.callS apl rfl (anh b_1' w_18' l_3' w_17' l_2' o_69') rfl trivial rfl rfl (fun r H' hS => ?_) (fun c H' hS => ?_)
      ·obtain ⟨w_21', n_21', f_9', hc, ho⟩ := hS
       cases ho
       replace h := h n_21' f_9' hc
       refine WL.nil ?_
       refine kg (hK_174' [(0, st text), (2, zP b), (5, zP b_1'), (6, zI i_1'), (7, zU ((text.getD i_1'.toNat 0).toNat : Int))] _ ?_)
       refine a6 (fun _ hK_175' => ?_)
       refine q9 11 [] g8 (by kernel_rfl) rfl (fun T_21' hT_21' => ?_)
       refine fv (fun _ => OV.move rfl) ?_
       refine fv (fun _ => OV.nilCheck rfl) ?_
       refine fv (fun _ => OV.fieldAddr0 rfl j6) ?_
       refine fv (fun _ => OV.load rfl (At.own 0 rfl) rfl n6) ?_
       refine fv (fun _ => OV.move rfl) ?_
       refine fv (fun _ => OV.nilCheck rfl) ?_
       refine fv (fun _ => OV.fieldAddr0 rfl j6) ?_
       refine fv (fun _ => OV.load rfl (At.own 0 rfl) rfl n6) ?_
       refine fv (fun _ => OV.lenRow 2 rfl rfl o7) ?_
       obtain ⟨o_70', h⟩ := h
       refine fv (fun _ => OV.sub rfl rfl o_70') ?_
       refine fv (fun _ => OV.move rfl) ?_
       refine FL.weak (L' := fun γ => [(0, st text), (2, zP b), (5, zP b_1'), (6, zI i_1'), (129, w_17'), (135, zI ((f_9'.length : Int) - 1)), (136, zU ((text.getD i_1'.toNat 0).toNat : Int))]) (fun γ => ⟨rfl, rfl, rfl, rfl, rfl, rfl, rfl, trivial⟩) (FL.nil (hT_21' (fun γ => [(0, st text), (2, zP b), (5, zP b_1'), (6, zI i_1'), (129, w_17'), (135, zI ((f_9'.length : Int) - 1)), (136, zU ((text.getD i_1'.toNat 0).toNat : Int))]) (fun γ => ?_)))
       obtain ⟨o_71', h⟩ := h
       refine wv (OV.indexRow 2 rfl rfl rfl o7 o_71') ?_
       refine wv (OV.fieldAddr rfl ahv) ?_
       refine WL.storeEF (f := frC) (o := 3) (z := ((f_9'.getD (((f_9'.length : Int) - 1)).toNat default).1, (f_9'.getD (((f_9'.length : Int) - 1)).toNat default).2.1, (f_9'.getD (((f_9'.length : Int) - 1)).toNat default).2.2.1, ((text.getD i_1'.toNat 0).toNat : Int), (f_9'.getD (((f_9'.length : Int) - 1)).toNat default).2.2.2.2.1, (f_9'.getD (((f_9'.length : Int) - 1)).toNat default).2.2.2.2.2)) 2 rfl rfl rfl n8 (by omega) (by decide) rfl awl rfl rfl rfl ?_
       refine WL.nil ?_
       refine kg (hK_175' [(0, st text), (2, zP b), (5, zP b_1'), (6, zI i_1')] _ ?_)
       refine a6 (fun _ hK_176' => ?_)
       refine a4 ?_
       refine wm ?_
       obtain ⟨o_72', h⟩ := h
       refine wv (OV.add rfl rfl o_72') ?_
       refine wa ?_
       refine WL.nil ?_
       refine kg (hK_176' [(0, st text), (2, zP b), (5, zP b_1'), (6, zI (i_1' + 1))] _ ?_)
       refine s5 ?_
       exact kh (hK_136' (i_1' + 1, w_17', f_9'.set ((((f_9'.length : Int) - 1)).toNat) ((f_9'.getD (((f_9'.length : Int) - 1)).toNat default).1, (f_9'.getD (((f_9'.length : Int) - 1)).toNat default).2.1, (f_9'.getD (((f_9'.length : Int) - 1)).toNat default).2.2.1, ((text.getD i_1'.toNat 0).toNat : Int), (f_9'.getD (((f_9'.length : Int) - 1)).toNat default).2.2.2.2.1, (f_9'.getD (((f_9'.length : Int) - 1)).toNat default).2.2.2.2.2), w_21', n_21') h.1 h.2) [2, 1, 0, 3, 4]
      ·obtain ⟨w_21', n_21', f_9', hc, ho⟩ := hS
       cases ho
     ·replace h := j5 h hb
      refine b7 ?_
      refine kg (hK_171' [(0, st text), (2, zP b), (5, zP b_1'), (6, zI i_1'), (7, zU ((text.getD i_1'.toNat 0).toNat : Int))] _ ?_)
      refine a6 (fun _ hK_177' => ?_)
      refine a6 (fun _ hK_178' => ?_)
      refine a4 ?_
      refine wm ?_
      refine wv (OV.eql rfl rfl) ?_
      refine WL.nil ?_
      refine kg (hK_178' [(0, st text), (2, zP b), (5, zP b_1'), (6, zI i_1'), (7, zU ((text.getD i_1'.toNat 0).toNat : Int)), (142, zB (decide (((text.getD i_1'.toNat 0).toNat : Int) = 41)))] _ ?_)
      refine b6 (b := decide (((text.getD i_1'.toNat 0).toNat : Int) = 41)) rfl (fun hb => ?_) (fun hb => ?_)
      ·replace h := j4 h hb
       refine a6 (fun _ hK_179' => ?_)
       refine a6 (fun _ hK_180' => ?_)
       refine a4 ?_
       refine wm ?_
       refine wv (OV.nilCheck rfl) ?_
       refine wv (OV.fieldAddr0 rfl j6) ?_
       refine wv (OV.load rfl (At.own 2 rfl) rfl n6) ?_
       refine wv (OV.lenRow 0 rfl rfl o7) ?_
       refine wv (OV.eql rfl rfl) ?_
       refine WL.nil ?_
       refine kg (hK_180' [(0, st text), (2, zP b), (5, zP b_1'), (6, zI i_1'), (148, zB (decide ((l_2'.length : Int) = 1)))] _ ?_)
       refine b6 (b := decide ((l_2'.length : Int) = 1)) rfl (fun hb => ?_) (fun hb => ?_)
       ·replace h := j4 h hb
        refine a6 (fun _ hK_181' => ?_)
        refine a4 ?_
        refine wv (OV.build rfl (cs := [Value.slice none 0 0, zI 0]) rfl) ?_
        refine wm ?_
        refine WL.storeW (vs := [Value.slice none 0 0, zI 0]) 4 rfl rfl rfl rfl rfl aah rfl rfl rfl ?_
        refine wa ?_
        refine wa ?_
        refine WL.nil ?_
        refine kg (hK_181' [(2, zP b), (3, zI 20), (4, zI i_1')] _ ?_)
        refine c9 ?_
        refine QX.nilRow 63 261 ndC ?_
        exact hE.ret [0] rfl rfl (.inl ⟨_, _, _, _, _, h, rfl⟩) (f9.of3 rfl (RV.row rfl (At.own 5 rfl) x4) (RV.tmp rfl) (RV.tmp rfl))
       ·replace h := j5 h hb
        refine b7 ?_
        refine kg (hK_179' [(0, st text), (2, zP b), (5, zP b_1'), (6, zI i_1')] _ ?_)
        refine a6 (fun _ hK_182' => ?_)
        refine a4 ?_
        refine wm ?_
        obtain ⟨o_73', h⟩ := h
        refine WL.pick (H' := [HA.blk b_1' (.cells [w_18', w_17'].toArray 52 (0, 0)), HA.row w_18' 63 261 l_3'.length (l_3'.flatMap ndC), HA.row w_17' 54 6 l_2'.length (l_2'.flatMap frC), HA.row (Value.slice none 0 0) 63 261 ([] : List ND).length (([] : List ND).flatMap ndC), HA.blk b (.cells [Value.slice none 0 0, zI 0].toArray 32 (0, 0))]) [2, 1, 0, 3, 4] rfl rfl ?_
        refine WL.callS akf rfl (agr b_1' w_18' l_3' w_17' l_2' o_73') rfl trivial rfl rfl (fun r H' hS => ?_) (fun c H' hS => ?_)
        ·obtain ⟨w_22', n_22', f_10', hc, ho⟩ := hS
         cases ho
         replace h := h n_22' f_10' hc
         refine WL.nil ?_
         refine kg (hK_182' [(0, st text), (2, zP b), (5, zP b_1'), (6, zI i_1')] _ ?_)
         refine a6 (fun _ hK_183' => ?_)
         refine q9 10 [] g8 (by kernel_rfl) rfl (fun T_22' hT_22' => ?_)
         refine fv (fun _ => OV.move rfl) ?_
         refine fv (fun _ => OV.nilCheck rfl) ?_
         refine fv (fun _ => OV.fieldAddr0 rfl j6) ?_
         refine fv (fun _ => OV.load rfl (At.own 0 rfl) rfl n6) ?_
         refine fv (fun _ => OV.move rfl) ?_
         refine fv (fun _ => OV.nilCheck rfl) ?_
         refine fv (fun _ => OV.fieldAddr0 rfl j6) ?_
         refine fv (fun _ => OV.load rfl (At.own 0 rfl) rfl n6) ?_
         refine fv (fun _ => OV.lenRow 2 rfl rfl o7) ?_
         obtain ⟨o_74', h⟩ := h
         refine fv (fun _ => OV.sub rfl rfl o_74') ?_
         refine FL.weak (L' := fun γ => [(0, st text), (2, zP b), (5, zP b_1'), (6, zI i_1'), (156, w_17'), (162, zI ((f_10'.length : Int) - 1))]) (fun γ => ⟨rfl, rfl, rfl, rfl, rfl, rfl, trivial⟩) (FL.nil (hT_22' (fun γ => [(0, st text), (2, zP b), (5, zP b_1'), (6, zI i_1'), (156, w_17'), (162, zI ((f_10'.length : Int) - 1))]) (fun γ => ?_)))
         obtain ⟨o_75', h⟩ := h
         refine wv (OV.indexRow 2 rfl rfl rfl o7 o_75') ?_
         refine wv (OV.fieldAddr rfl abc) ?_
         refine wv (OV.loadEF (f := frC) (o := 1) 2 rfl rfl n8 (by omega) rfl b5) ?_
         refine wa ?_
         refine WL.nil ?_
         refine kg (hK_183' [(0, st text), (2, zP b), (5, zP b_1'), (6, zI i_1'), (14, zI ((f_10'.getD (((f_10'.length : Int) - 1)).toNat default).2.1))] _ ?_)
         refine a6 (fun _ hK_184' => ?_)
         refine q9 12 [] g8 (by kernel_rfl) rfl (fun T_23' hT_23' => ?_)
         refine fv (fun _ => OV.move rfl) ?_
         refine fv (fun _ => OV.move rfl) ?_
         refine fv (fun _ => OV.nilCheck rfl) ?_
         refine fv (fun _ => OV.fieldAddr0 rfl j6) ?_
         refine fv (fun _ => OV.load rfl (At.own 0 rfl) rfl n6) ?_
         refine fv (fun _ => OV.move rfl) ?_
         refine fv (fun _ => OV.nilCheck rfl) ?_
         refine fv (fun _ => OV.fieldAddr0 rfl j6) ?_
         refine fv (fun _ => OV.load rfl (At.own 0 rfl) rfl n6) ?_
         refine fv (fun _ => OV.lenRow 2 rfl rfl o7) ?_
         obtain ⟨o_76', h⟩ := h
         refine fv (fun _ => OV.sub rfl rfl o_76') ?_
         obtain ⟨o_77', h⟩ := h
         refine fv (fun _ => OV.sliceTo 2 rfl rfl rfl o7 o_77') ?_
         refine FL.weak (L' := fun γ => [(0, st text), (2, zP b), (5, zP b_1'), (6, zI i_1'), (14, zI ((f_10'.getD (((f_10'.length : Int) - 1)).toNat default).2.1)), (166, zP b_1'), (177, ahs w_17' (((f_10'.length : Int) - 1)).toNat)]) (fun γ => ⟨rfl, rfl, rfl, rfl, rfl, rfl, rfl, trivial⟩) (FL.nil (hT_23' (fun γ => [(0, st text), (2, zP b), (5, zP b_1'), (6, zI i_1'), (14, zI ((f_10'.getD (((f_10'.length : Int) - 1)).toNat default).2.1)), (166, zP b_1'), (177, ahs w_17' (((f_10'.length : Int) - 1)).toNat)]) (fun γ => ?_)))
         refine wv (OV.nilCheck rfl) ?_
         refine wv (OV.fieldAddr0 rfl j6) ?_
         refine WL.shorter (m := (((f_10'.length : Int) - 1)).toNat) 2 rfl n8 (by omega) ?_
         refine WL.storeSl (cs' := [w_22', ahs w_17' (((f_10'.length : Int) - 1)).toNat]) 0 2 rfl rfl rfl rfl aio (Nat.le_of_ble_eq_true rfl) rfl rfl ?_
         refine WL.nil ?_
         refine kg (hK_184' [(0, st text), (2, zP b), (5, zP b_1'), (6, zI i_1'), (14, zI ((f_10'.getD (((f_10'.length : Int) - 1)).toNat default).2.1))] _ ?_)
         refine a6 (fun _ hK_185' => ?_)
         refine q9 11 [] g8 (by kernel_rfl) rfl (fun T_24' hT_24' => ?_)
         refine fv (fun _ => OV.move rfl) ?_
         refine fv (fun _ => OV.nilCheck rfl) ?_
         refine fv (fun _ => OV.fieldAddr0 rfl j6) ?_
         refine fv (fun _ => OV.load rfl (At.own 0 rfl) rfl n6) ?_
         refine fv (fun _ => OV.move rfl) ?_
         refine fv (fun _ => OV.nilCheck rfl) ?_
         refine fv (fun _ => OV.fieldAddr0 rfl j6) ?_
         refine fv (fun _ => OV.load rfl (At.own 0 rfl) rfl n6) ?_
         refine fv (fun _ => OV.lenRow 2 rfl rfl o7) ?_
         obtain ⟨o_78', h⟩ := h
         refine fv (fun _ => OV.sub rfl rfl o_78') ?_
         refine fv (fun _ => OV.move rfl) ?_
         refine FL.weak (L' := fun γ => [(0, st text), (2, zP b), (5, zP b_1'), (6, zI i_1'), (183, ahs w_17' (((f_10'.length : Int) - 1)).toNat), (189, zI (((f_10'.take ((((f_10'.length : Int) - 1)).toNat)).length : Int) - 1)), (190, zI ((f_10'.getD (((f_10'.length : Int) - 1)).toNat default).2.1))]) (fun γ => ⟨rfl, rfl, rfl, rfl, rfl, rfl, rfl, trivial⟩) (FL.nil (hT_24' (fun γ => [(0, st text), (2, zP b), (5, zP b_1'), (6, zI i_1'), (183, ahs w_17' (((f_10'.length : Int) - 1)).toNat), (189, zI (((f_10'.take ((((f_10'.length : Int) - 1)).toNat)).length : Int) - 1)), (190, zI ((f_10'.getD (((f_10'.length : Int) - 1)).toNat default).2.1))]) (fun γ => ?_)))
         obtain ⟨o_79', h⟩ := h
         refine wv (OV.indexRow 2 rfl rfl rfl o7 o_79') ?_
         refine wv (OV.fieldAddr rfl x8) ?_
         refine WL.storeEF (f := frC) (o := 5) (z := (((f_10'.take ((((f_10'.length : Int) - 1)).toNat)).getD ((((f_10'.take ((((f_10'.length : Int) - 1)).toNat)).length : Int) - 1)).toNat default).1, ((f_10'.take ((((f_10'.length : Int) - 1)).toNat)).getD ((((f_10'.take ((((f_10'.length : Int) - 1)).toNat)).length : Int) - 1)).toNat default).2.1, ((f_10'.take ((((f_10'.length : Int) - 1)).toNat)).getD ((((f_10'.take ((((f_10'.length : Int) - 1)).toNat)).length : Int) - 1)).toNat default).2.2.1, ((f_10'.take ((((f_10'.length : Int) - 1)).toNat)).getD ((((f_10'.take ((((f_10'.length : Int) - 1)).toNat)).length : Int) - 1)).toNat default).2.2.2.1, ((f_10'.take ((((f_10'.length : Int) - 1)).toNat)).getD ((((f_10'.take ((((f_10'.length : Int) - 1)).toNat)).length : Int) - 1)).toNat default).2.2.2.2.1, (f_10'.getD (((f_10'.length : Int) - 1)).toNat default).2.1)) 2 rfl rfl rfl n8 (by omega) (by decide) rfl g9 rfl rfl rfl ?_
         refine WL.nil ?_
         refine kg (hK_185' [(0, st text), (2, zP b), (5, zP b_1'), (6, zI i_1')] _ ?_)
         refine a6 (fun _ hK_186' => ?_)
         refine a4 ?_
         refine wm ?_
         obtain ⟨o_80', h⟩ := h
         refine wv (OV.add rfl rfl o_80') ?_
         refine wa ?_
         refine WL.nil ?_
         refine kg (hK_186' [(0, st text), (2, zP b), (5, zP b_1'), (6, zI (i_1' + 1))] _ ?_)
         refine s5 ?_
         exact kh (hK_136' (i_1' + 1, ahs w_17' (((f_10'.length : Int) - 1)).toNat, (f_10'.take ((((f_10'.length : Int) - 1)).toNat)).set (((((f_10'.take ((((f_10'.length : Int) - 1)).toNat)).length : Int) - 1)).toNat) (((f_10'.take ((((f_10'.length : Int) - 1)).toNat)).getD ((((f_10'.take ((((f_10'.length : Int) - 1)).toNat)).length : Int) - 1)).toNat default).1, ((f_10'.take ((((f_10'.length : Int) - 1)).toNat)).getD ((((f_10'.take ((((f_10'.length : Int) - 1)).toNat)).length : Int) - 1)).toNat default).2.1, ((f_10'.take ((((f_10'.length : Int) - 1)).toNat)).getD ((((f_10'.take ((((f_10'.length : Int) - 1)).toNat)).length : Int) - 1)).toNat default).2.2.1, ((f_10'.take ((((f_10'.length : Int) - 1)).toNat)).getD ((((f_10'.take ((((f_10'.length : Int) - 1)).toNat)).length : Int) - 1)).toNat default).2.2.2.1, ((f_10'.take ((((f_10'.length : Int) - 1)).toNat)).getD ((((f_10'.take ((((f_10'.length : Int) - 1)).toNat)).length : Int) - 1)).toNat default).2.2.2.2.1, (f_10'.getD (((f_10'.length : Int) - 1)).toNat default).2.1), w_22', n_22') h.1 h.2) [2, 1, 0, 3, 4]
        ·obtain ⟨w_22', n_22', f_10', hc, ho⟩ := hS
         cases ho
      ·replace h := j5 h hb
       refine b7 ?_
       refine kg (hK_177' [(0, st text), (2, zP b), (5, zP b_1'), (6, zI i_1'), (7, zU ((text.getD i_1'.toNat 0).toNat : Int))] _ ?_)
       refine a6 (fun _ hK_187' => ?_)
       refine a4 ?_
       refine wm ?_
       obtain ⟨o_81', h⟩ := h
       refine WL.pick (H' := [HA.blk b_1' (.cells [w_18', w_17'].toArray 52 (0, 0)), HA.row w_18' 63 261 l_3'.length (l_3'.flatMap ndC), HA.row w_17' 54 6 l_2'.length (l_2'.flatMap frC), HA.row (Value.slice none 0 0) 63 261 ([] : List ND).length (([] : List ND).flatMap ndC), HA.blk b (.cells [Value.slice none 0 0, zI 0].toArray 32 (0, 0))]) [2, 1, 0, 3, 4] rfl rfl ?_
       refine WL.callS apo rfl (ai5 b_1' w_18' l_3' w_17' l_2' o_81') rfl trivial rfl rfl (fun r H' hS => ?_) (fun c H' hS => ?_)
       ·obtain ⟨w_23', n_23', f_11', hc, ho⟩ := hS
        cases ho
        replace h := h n_23' f_11' hc
        refine WL.nil ?_
        refine kg (hK_187' [(0, st text), (2, zP b), (5, zP b_1'), (6, zI i_1'), (7, zU ((text.getD i_1'.toNat 0).toNat : Int))] _ ?_)
        refine a6 (fun _ hK_188' => ?_)
        refine a6 (fun _ hK_189' => ?_)
        refine a4 ?_
        refine wm ?_
        refine wv (OV.eql rfl rfl) ?_
        refine WL.nil ?_
        refine kg (hK_189' [(0, st text), (2, zP b), (5, zP b_1'), (6, zI i_1'), (198, zB (decide (((text.getD i_1'.toNat 0).toNat : Int) = 40)))] _ ?_)
        refine b6 (b := decide (((text.getD i_1'.toNat 0).toNat : Int) = 40)) rfl (fun hb => ?_) (fun hb => ?_)
        ·replace h := j4 h hb
         refine a6 (fun _ hK_190' => ?_)
         refine a6 (fun _ hK_191' => ?_)
         refine a4 ?_
         refine wm ?_
         refine wv (OV.nilCheck rfl) ?_
         refine wv (OV.fieldAddr0 rfl j6) ?_
         refine wv (OV.load rfl (At.own 0 rfl) rfl n6) ?_
         refine wv (OV.lenRow 2 rfl rfl o7) ?_
         refine wv (OV.gtr rfl rfl) ?_
         refine WL.nil ?_
         refine kg (hK_191' [(0, st text), (2, zP b), (5, zP b_1'), (6, zI i_1'), (204, zB (decide (1000 < (f_11'.length : Int))))] _ ?_)
         refine b6 (b := decide (1000 < (f_11'.length : Int))) rfl (fun hb => ?_) (fun hb => ?_)
         ·replace h := j4 h hb
          refine a6 (fun _ hK_192' => ?_)
          refine a4 ?_
          refine wv (OV.build rfl (cs := [Value.slice none 0 0, zI 0]) rfl) ?_
          refine wm ?_
          refine WL.storeW (vs := [Value.slice none 0 0, zI 0]) 4 rfl rfl rfl rfl rfl aah rfl rfl rfl ?_
          refine wa ?_
          refine wa ?_
          refine WL.nil ?_
          refine kg (hK_192' [(2, zP b), (3, zI 23), (4, zI i_1')] _ ?_)
          refine c9 ?_
          refine QX.nilRow 63 261 ndC ?_
          exact hE.ret [0] rfl rfl (.inl ⟨_, _, _, _, _, h, rfl⟩) (f9.of3 rfl (RV.row rfl (At.own 5 rfl) x4) (RV.tmp rfl) (RV.tmp rfl))
         ·replace h := j5 h hb
          refine b7 ?_
          refine kg (hK_190' [(0, st text), (2, zP b), (5, zP b_1'), (6, zI i_1')] _ ?_)
          refine a6 (fun _ hK_193' => ?_)
          refine x1 6 [0, 1, 3, 4] [HA.blk b_1' (.cells [w_23', w_17'].toArray 52 (0, 0)), HA.row w_23' 63 261 n_23'.length (n_23'.flatMap ndC), HA.row (Value.slice none 0 0) 63 261 ([] : List ND).length (([] : List ND).flatMap ndC), HA.blk b (.cells [Value.slice none 0 0, zI 0].toArray 32 (0, 0))] rfl rfl g8 (by kernel_rfl) (fun T_25' hT_25' => ?_)
          refine TW.val (OV.move rfl) rfl rfl rfl ?_
          refine TW.val (OV.move rfl) rfl rfl rfl ?_
          refine TW.val (OV.nilCheck rfl) rfl rfl rfl ?_
          refine TW.val (OV.fieldAddr0 rfl j6) rfl rfl rfl ?_
          refine TW.val (OV.load rfl (At.own 0 rfl) rfl n6) rfl rfl rfl ?_
          refine TW.val (OV.move rfl) rfl rfl rfl ?_
          refine TW.nil (hT_25' _ ?_)
          refine WLX.callS [0, 1, 3, 4] rfl (EN.fn apd rfl) rfl (an3 i_1') rfl rfl trivial rfl rfl (fun r H' hS => ?_) (fun c H' hS => ?_)
          rotate_left
          ·cases hS
          cases hS
          refine WLX.make (MV.buildSlice (cs := [zI i_1', zI (-1), zI (-1), zU 0, zI (-1), zI (-1)]) rfl o7 (by kernel_rfl)) [1, 2, 4, 5] rfl (fun _ => rfl) rfl rfl rfl (fun b_12' => ?_)
          obtain ⟨o_82', h⟩ := h
          refine WLX.valX (ach (f := frC) (ms := [(i_1', (-1), (-1), 0, (-1), (-1))]) 3 0 rfl rfl rfl rfl rfl rfl n8 (by decide) rfl o7 al2 rfl o_82') [1, 2, 4, 5] rfl (fun _ _ e => by cases e; rfl) rfl rfl rfl (fun w_24' _ e => ?_)
          cases e
          refine WLX.op [1, 2, 4, 5] rfl rfl (OpK.val (OV.nilCheck rfl) rfl rfl) rfl ?_
          refine WLX.op [1, 2, 4, 5] rfl rfl (OpK.val (OV.fieldAddr0 rfl j6) rfl rfl) rfl ?_
          refine WLX.opZ (OpK.storeSl (cs' := [w_23', w_24']) 1 3 rfl rfl rfl rfl aio (Nat.le_of_ble_eq_true rfl) rfl) rfl ?_
          refine WLX.nil ?_
          refine kg (hK_193' [(0, st text), (2, zP b), (5, zP b_1'), (6, zI i_1')] _ ?_)
          refine a6 (fun _ hK_194' => ?_)
          refine a4 ?_
          refine wm ?_
          obtain ⟨o_83', h⟩ := h
          refine wv (OV.add rfl rfl o_83') ?_
          refine wa ?_
          refine WL.nil ?_
          refine kg (hK_194' [(0, st text), (2, zP b), (5, zP b_1'), (6, zI (i_1' + 1))] _ ?_)
          refine s5 ?_
          exact kh (hK_136' (i_1' + 1, w_24', f_11' ++ [(i_1', (-1), (-1), 0, (-1), (-1))], w_23', n_23') h.1 h.2) [3, 2, 1, 4, 5]
        ·replace h := j5 h hb
         refine b7 ?_
         refine kg (hK_188' [(0, st text), (2, zP b), (5, zP b_1'), (6, zI i_1')] _ ?_)
         refine a6 (fun _ hK_195' => ?_)
         refine a4 ?_
         refine wm ?_
         refine wm ?_
         obtain ⟨o_84', h⟩ := h
         refine WL.callS axx rfl (au5 text i_1' o_84') rfl trivial rfl rfl (fun r H' hS => ?_) (fun c H' hS => ?_)
         ·obtain ⟨s_2', hc, ho⟩ := hS
          cases ho
          replace h := h s_2' hc
          refine wm ?_
          refine wv (OV.extract 0 rfl rfl) ?_
          refine wv (OV.extract 1 rfl rfl) ?_
          refine wv (OV.extract 2 rfl rfl) ?_
          refine wv (OV.extract 3 rfl rfl) ?_
          refine WL.make (MV.alloc aif) rfl rfl rfl (fun b_13' => ?_)
          refine WL.storeW (vs := arr 256 (fun j => zB (s_2' j))) 0 rfl rfl rfl rfl (d8 _ _) aa4 ((d8 _ _).trans (d8 _ _).symm) (adq _ _ (fun _ => rfl)) rfl ?_
          refine wa ?_
          refine wa ?_
          refine wa ?_
          refine WL.nil ?_
          refine kg (hK_195' [(0, st text), (2, zP b), (5, zP b_1'), (15, zP b_13'), (16, zI ((l8 text i_1').2.1)), (17, zI ((l8 text i_1').2.2.1)), (18, zI ((l8 text i_1').2.2.2))] _ ?_)
          refine a6 (fun _ hK_196' => ?_)
          refine a6 (fun _ hK_197' => ?_)
          refine a4 ?_
          refine wm ?_
          refine wv (OV.neq rfl rfl) ?_
          refine WL.nil ?_
          refine kg (hK_197' [(0, st text), (2, zP b), (5, zP b_1'), (15, zP b_13'), (16, zI ((l8 text i_1').2.1)), (17, zI ((l8 text i_1').2.2.1)), (18, zI ((l8 text i_1').2.2.2)), (229, zB (!decide ((l8 text i_1').2.2.1 = 0)))] _ ?_)
          refine b6 (b := !decide ((l8 text i_1').2.2.1 = 0)) rfl (fun hb => ?_) (fun hb => ?_)
          ·replace h := j4 h hb
           refine a6 (fun _ hK_198' => ?_)
           refine a4 ?_
           refine wv (OV.build rfl (cs := [Value.slice none 0 0, zI 0]) rfl) ?_
           refine wm ?_
           refine wm ?_
           refine WL.storeW (vs := [Value.slice none 0 0, zI 0]) 5 rfl rfl rfl rfl rfl aah rfl rfl rfl ?_
           refine wa ?_
           refine wa ?_
           refine WL.nil ?_
           refine kg (hK_198' [(2, zP b), (3, zI ((l8 text i_1').2.2.1)), (4, zI ((l8 text i_1').2.2.2))] _ ?_)
           refine c9 ?_
           refine QX.nilRow 63 261 ndC ?_
           exact hE.ret [0] rfl rfl (.inl ⟨_, _, _, _, _, h, rfl⟩) (f9.of3 rfl (RV.row rfl (At.own 6 rfl) x4) (RV.tmp rfl) (RV.tmp rfl))
          ·replace h := j5 h hb
           refine b7 ?_
           refine kg (hK_196' [(0, st text), (2, zP b), (5, zP b_1'), (15, zP b_13'), (16, zI ((l8 text i_1').2.1))] _ ?_)
           refine a6 (fun _ hK_199' => ?_)
           refine x1 7 [0, 1, 3, 4, 5] [HA.blk b_13' (.cells (arr 256 (fun j => zB (s_2' j))).toArray 61 (0, 0)), HA.blk b_1' (.cells [w_23', w_17'].toArray 52 (0, 0)), HA.row w_17' 54 6 f_11'.length (f_11'.flatMap frC), HA.row (Value.slice none 0 0) 63 261 ([] : List ND).length (([] : List ND).flatMap ndC), HA.blk b (.cells [Value.slice none 0 0, zI 0].toArray 32 (0, 0))] rfl rfl g8 (by kernel_rfl) (fun T_26' hT_26' => ?_)
           refine TW.val (OV.move rfl) rfl rfl rfl ?_
           refine TW.val (OV.move rfl) rfl rfl rfl ?_
           refine TW.val (OV.nilCheck rfl) rfl rfl rfl ?_
           refine TW.val (OV.fieldAddr0 rfl v7) rfl rfl rfl ?_
           refine TW.val (OV.load rfl (At.own 1 rfl) rfl v8) rfl rfl rfl ?_
           refine TW.val (OV.loadR rfl (At.own 0 rfl) (by rw [d8]; exact x3)) rfl rfl rfl ?_
           refine TW.val (OV.build rfl (cs := ndC (1, s_2', 0, 0, 0, 0)) (by kernel_rfl)) rfl rfl rfl ?_
           refine TW.nil (hT_26' _ ?_)
           refine WLX.make (MV.buildSlice1 (cs := ndC (1, s_2', 0, 0, 0, 0)) rfl rfl p9 ace (s6 _) (s6 _)) [1, 2, 4, 5, 6] rfl (fun _ => rfl) rfl rfl rfl (fun b_14' => ?_)
           obtain ⟨o_85', h⟩ := h
           refine WLX.valX (ach (f := ndC) (ms := [(1, s_2', 0, 0, 0, 0)]) 3 0 rfl rfl rfl rfl (agu _ _) rfl s6 (by decide) (afr (1, s_2', 0, 0, 0, 0)) p9 aec rfl o_85') [1, 2, 4, 5, 6] rfl (fun _ _ e => by cases e; rfl) rfl rfl rfl (fun w_25' _ e => ?_)
           cases e
           refine WLX.op [1, 2, 4, 5, 6] rfl rfl (OpK.val (OV.nilCheck rfl) rfl rfl) rfl ?_
           refine WLX.op [1, 2, 4, 5, 6] rfl rfl (OpK.val (OV.fieldAddr0 rfl v7) rfl rfl) rfl ?_
           refine WLX.opZ (OpK.storeSl (cs' := [w_25', w_17']) 2 3 rfl rfl rfl rfl ad8 (Nat.le_of_ble_eq_true rfl) rfl) rfl ?_
           refine WLX.nil ?_
           refine kg (hK_199' [(0, st text), (2, zP b), (5, zP b_1'), (16, zI ((l8 text i_1').2.1))] _ ?_)
           refine a6 (fun _ hK_200' => ?_)
           refine q9 16 [] g8 (by kernel_rfl) rfl (fun T_27' hT_27' => ?_)
           refine fv (fun _ => OV.move rfl) ?_
           refine fv (fun _ => OV.nilCheck rfl) ?_
           refine fv (fun _ => OV.fieldAddr0 rfl j6) ?_
           refine fv (fun _ => OV.load rfl (At.own 2 rfl) rfl n6) ?_
           refine fv (fun _ => OV.move rfl) ?_
           refine fv (fun _ => OV.nilCheck rfl) ?_
           refine fv (fun _ => OV.fieldAddr0 rfl j6) ?_
           refine fv (fun _ => OV.load rfl (At.own 2 rfl) rfl n6) ?_
           refine fv (fun _ => OV.lenRow 4 rfl rfl o7) ?_
           obtain ⟨o_86', h⟩ := h
           refine fv (fun _ => OV.sub rfl rfl o_86') ?_
           refine fv (fun _ => OV.move rfl) ?_
           refine fv (fun _ => OV.nilCheck rfl) ?_
           refine fv (fun _ => OV.fieldAddr0 rfl v7) ?_
           refine fv (fun _ => OV.load rfl (At.own 2 rfl) rfl v8) ?_
           refine fv (fun _ => OV.lenRow 3 rfl rfl p9) ?_
           obtain ⟨o_87', h⟩ := h
           refine fv (fun _ => OV.sub rfl rfl o_87') ?_
           refine FL.weak (L' := fun γ => [(0, st text), (2, zP b), (5, zP b_1'), (16, zI ((l8 text i_1').2.1)), (247, w_17'), (253, zI ((f_11'.length : Int) - 1)), (259, zI (((n_23' ++ [(1, s_2', 0, 0, 0, 0)]).length : Int) - 1))]) (fun γ => ⟨rfl, rfl, rfl, rfl, rfl, rfl, rfl, trivial⟩) (FL.nil (hT_27' (fun γ => [(0, st text), (2, zP b), (5, zP b_1'), (16, zI ((l8 text i_1').2.1)), (247, w_17'), (253, zI ((f_11'.length : Int) - 1)), (259, zI (((n_23' ++ [(1, s_2', 0, 0, 0, 0)]).length : Int) - 1))]) (fun γ => ?_)))
           obtain ⟨o_88', h⟩ := h
           refine wv (OV.indexRow 4 rfl rfl rfl o7 o_88') ?_
           refine wv (OV.fieldAddr rfl x8) ?_
           refine WL.storeEF (f := frC) (o := 5) (z := ((f_11'.getD (((f_11'.length : Int) - 1)).toNat default).1, (f_11'.getD (((f_11'.length : Int) - 1)).toNat default).2.1, (f_11'.getD (((f_11'.length : Int) - 1)).toNat default).2.2.1, (f_11'.getD (((f_11'.length : Int) - 1)).toNat default).2.2.2.1, (f_11'.getD (((f_11'.length : Int) - 1)).toNat default).2.2.2.2.1, ((n_23' ++ [(1, s_2', 0, 0, 0, 0)]).length : Int) - 1)) 4 rfl rfl rfl n8 (by omega) (by decide) rfl g9 rfl rfl rfl ?_
           refine WL.nil ?_
           refine kg (hK_200' [(0, st text), (2, zP b), (5, zP b_1'), (16, zI ((l8 text i_1').2.1))] _ ?_)
           refine a4 ?_
           refine wm ?_
           refine wa ?_
           refine WL.nil ?_
           exact kh (hK_136' ((l8 text i_1').2.1, w_17', f_11'.set ((((f_11'.length : Int) - 1)).toNat) ((f_11'.getD (((f_11'.length : Int) - 1)).toNat default).1, (f_11'.getD (((f_11'.length : Int) - 1)).toNat default).2.1, (f_11'.getD (((f_11'.length : Int) - 1)).toNat default).2.2.1, (f_11'.getD (((f_11'.length : Int) - 1)).toNat default).2.2.2.1, (f_11'.getD (((f_11'.length : Int) - 1)).toNat default).2.2.2.2.1, ((n_23' ++ [(1, s_2', 0, 0, 0, 0)]).length : Int) - 1), w_25', n_23' ++ [(1, s_2', 0, 0, 0, 0)]) h.1 h.2) [4, 3, 2, 5, 6]
         ·obtain ⟨s_2', hc, ho⟩ := hS
          cases ho
       ·obtain ⟨w_23', n_23', f_11', hc, ho⟩ := hS
        cases ho
  ·replace h := j5 h hb
   refine s5 ?_
   refine kg (hK_7' [(2, zP b), (5, zP b_1')] _ ?_)
   refine a6 (fun _ hK_201' => ?_)
   refine a6 (fun _ hK_202' => ?_)
   refine a4 ?_
   refine wm ?_
   refine wv (OV.nilCheck rfl) ?_
   refine wv (OV.fieldAddr0 rfl j6) ?_
   refine wv (OV.load rfl (At.own 2 rfl) rfl n6) ?_
   refine wv (OV.lenRow 0 rfl rfl o7) ?_
   refine wv (OV.gtr rfl rfl) ?_
   refine WL.nil ?_
   refine kg (hK_202' [(2, zP b), (5, zP b_1'), (268, zB (decide (1 < (l_2'.length : Int))))] _ ?_)
   refine b6 (b := decide (1 < (l_2'.length : Int))) rfl (fun hb => ?_) (fun hb => ?_)
   ·replace h := j4 h hb
    refine a6 (fun _ hK_203' => ?_)
    refine ai6 14 [0, 1, 2, 3] [HA.row w_17' 54 6 l_2'.length (l_2'.flatMap frC), HA.row w_18' 63 261 l_3'.length (l_3'.flatMap ndC), HA.blk b_1' (.cells [w_18', w_17'].toArray 52 (0, 0)), HA.row (Value.slice none 0 0) 63 261 ([] : List ND).length (([] : List ND).flatMap ndC)] rfl rfl g8 (by kernel_rfl) (fun T_28' hT_28' => ?_)
    refine TW.val (OV.build rfl (cs := [Value.slice none 0 0, zI 0]) rfl) rfl rfl rfl ?_
    refine TW.val (OV.move rfl) rfl rfl rfl ?_
    refine TW.val (OV.nilCheck rfl) rfl rfl rfl ?_
    refine TW.val (OV.fieldAddr0 rfl j6) rfl rfl rfl ?_
    refine TW.val (OV.load rfl (At.own 2 rfl) rfl n6) rfl rfl rfl ?_
    refine TW.val (OV.move rfl) rfl rfl rfl ?_
    refine TW.val (OV.nilCheck rfl) rfl rfl rfl ?_
    refine TW.val (OV.fieldAddr0 rfl j6) rfl rfl rfl ?_
    refine TW.val (OV.load rfl (At.own 2 rfl) rfl n6) rfl rfl rfl ?_
    refine TW.val (OV.lenRow 0 rfl rfl o7) rfl rfl rfl ?_
    obtain ⟨o_91', h⟩ := h
    refine TW.val (OV.sub rfl rfl o_91') rfl rfl rfl ?_
    obtain ⟨o_92', h⟩ := h
    refine TW.val (OV.indexRow 0 rfl rfl rfl o7 o_92') rfl rfl rfl ?_
    refine TW.val (OV.fieldAddr rfl aoh) rfl rfl rfl ?_
    refine TW.val (OV.loadEF (f := frC) (o := 0) 0 rfl rfl n8 (by omega) rfl b5) rfl rfl rfl ?_
    refine TW.nil (hT_28' _ ?_)
    refine WLK.op [0, 1, 2, 3] rfl rfl (OpK.storeW (vs := [Value.slice none 0 0, zI 0]) 4 rfl rfl rfl rfl rfl aah rfl rfl) rfl ?_
    refine WLK.op [0, 1, 2, 3] rfl rfl (OpK.val (OV.assign rfl) rfl rfl) rfl ?_
    refine WLK.op [0, 1, 2, 3] rfl rfl (OpK.val (OV.assign rfl) rfl rfl) rfl ?_
    refine WLK.nil ?_
    refine kg (hK_203' [(2, zP b), (3, zI 21), (4, zI ((l_2'.getD (((l_2'.length : Int) - 1)).toNat default).1))] _ ?_)
    refine c9 ?_
    refine QX.nilRow 63 261 ndC ?_
    exact hE.ret [0] rfl rfl (.inl ⟨_, _, _, _, _, h, rfl⟩) (f9.of3 rfl (RV.row rfl (At.own 5 rfl) x4) (RV.tmp rfl) (RV.tmp rfl))
   ·replace h := j5 h hb
    refine b7 ?_
    refine kg (hK_201' [(2, zP b), (5, zP b_1')] _ ?_)
    refine a6 (fun _ hK_204' => ?_)
    refine a4 ?_
    refine wm ?_
    obtain ⟨o_93', h⟩ := h
    refine WL.pick (H' := [HA.blk b_1' (.cells [w_18', w_17'].toArray 52 (0, 0)), HA.row w_18' 63 261 l_3'.length (l_3'.flatMap ndC), HA.row w_17' 54 6 l_2'.length (l_2'.flatMap frC), HA.row (Value.slice none 0 0) 63 261 ([] : List ND).length (([] : List ND).flatMap ndC), HA.blk b (.cells [Value.slice none 0 0, zI 0].toArray 32 (0, 0))]) [2, 1, 0, 3, 4] rfl rfl ?_
    refine WL.callS akf rfl (agr b_1' w_18' l_3' w_17' l_2' o_93') rfl trivial rfl rfl (fun r H' hS => ?_) (fun c H' hS => ?_)
    ·obtain ⟨w_26', n_24', f_12', hc, ho⟩ := hS
     cases ho
     replace h := h n_24' f_12' hc
     refine WL.nil ?_
     refine kg (hK_204' [(2, zP b), (5, zP b_1')] _ ?_)
     refine a6 (fun _ hK_205' => ?_)
     refine a4 ?_
     refine wm ?_
     refine wv (OV.nilCheck rfl) ?_
     refine wv (OV.fieldAddr0 rfl j6) ?_
     refine wv (OV.load rfl (At.own 0 rfl) rfl n6) ?_
     obtain ⟨o_94', h⟩ := h
     refine wv (OV.indexRow 2 rfl rfl rfl o7 o_94') ?_
     refine wv (OV.fieldAddr rfl abc) ?_
     refine wv (OV.loadEF (f := frC) (o := 1) 2 rfl rfl n8 (by omega) rfl b5) ?_
     refine wa ?_
     refine WL.nil ?_
     refine kg (hK_205' [(2, zP b), (5, zP b_1'), (19, zI ((f_12'.getD ((0 : Int)).toNat default).2.1))] _ ?_)
     refine a6 (fun _ hK_206' => ?_)
     refine a6 (fun _ hK_207' => ?_)
     refine a4 ?_
     refine wm ?_
     refine wv (OV.nilCheck rfl) ?_
     refine wv (OV.fieldAddr0 rfl v7) ?_
     refine wv (OV.load rfl (At.own 0 rfl) rfl v8) ?_
     obtain ⟨o_95', h⟩ := h
     refine WL.callS1 (A := []) axr rfl (fun R hR => aru w_26' n_24' R hR o_95') rfl (LOk.row 1 rfl) trivial rfl rfl (fun r H' hS => ?_) (fun c H' hS => ?_)
     ·obtain ⟨w_27', z, hc, ho⟩ := hS
      obtain ⟨hr1, hr2⟩ := Out.ret.inj ho
      subst hr2
      replace hr1 := hr1.symm
      subst hr1
      replace h := h z hc
      refine wm ?_
      obtain ⟨o_96', h⟩ := h
      refine wv (OV.indexRow 0 rfl rfl rfl y9 o_96') ?_
      refine wv (OV.loadE1 (f := t0) 0 rfl rfl aa7 (by omega) rfl b5) ?_
      refine wv (OV.gtr rfl rfl) ?_
      refine WL.nil ?_
      refine kg (hK_207' [(2, zP b), (5, zP b_1'), (19, zI ((f_12'.getD ((0 : Int)).toNat default).2.1)), (300, zB (decide (2000 < (z.getD (((f_12'.getD ((0 : Int)).toNat default).2.1)).toNat default))))] _ ?_)
      refine b6 (b := decide (2000 < (z.getD (((f_12'.getD ((0 : Int)).toNat default).2.1)).toNat default))) rfl (fun hb => ?_) (fun hb => ?_)
      ·replace h := j4 h hb
       refine a6 (fun _ hK_208' => ?_)
       refine a4 ?_
       refine wv (OV.build rfl (cs := [Value.slice none 0 0, zI 0]) rfl) ?_
       refine WL.storeW (vs := [Value.slice none 0 0, zI 0]) 5 rfl rfl rfl rfl rfl aah rfl rfl rfl ?_
       refine wa ?_
       refine wa ?_
       refine WL.nil ?_
       refine kg (hK_208' [(2, zP b), (3, zI 24), (4, zI 0)] _ ?_)
       refine c9 ?_
       refine QX.nilRow 63 261 ndC ?_
       exact hE.ret [0] rfl rfl (.inl ⟨_, _, _, _, _, h, rfl⟩) (f9.of3 rfl (RV.row rfl (At.own 6 rfl) x4) (RV.tmp rfl) (RV.tmp rfl))
      ·replace h := j5 h hb
       refine b7 ?_
       refine kg (hK_206' [(2, zP b), (5, zP b_1'), (19, zI ((f_12'.getD ((0 : Int)).toNat default).2.1))] _ ?_)
       refine a6 (fun _ hK_209' => ?_)
       refine a4 ?_
       refine WL.make (MV.alloc af1) rfl rfl rfl (fun b_15' => ?_)
       refine WL.nilRow 63 261 ndC ?_
       refine WL.nil ?_
       refine kg (hK_209' [(2, zP b), (5, zP b_1'), (19, zI ((f_12'.getD ((0 : Int)).toNat default).2.1)), (20, zP b_15')] _ ?_)
       refine a6 (fun _ hK_210' => ?_)
       refine a4 ?_
       refine wm ?_
       refine wv (OV.nilCheck rfl) ?_
       refine wv (OV.fieldAddr0 rfl v7) ?_
       refine wv (OV.load rfl (At.own 3 rfl) rfl v8) ?_
       refine wm ?_
       obtain ⟨o_97', h⟩ := h
       refine WL.pick (H' := [HA.blk b_15' (.cells [Value.slice none 0 0, zI 0].toArray 32 (0, 0)), HA.row (Value.slice none 0 0) 63 261 ([] : List ND).length (([] : List ND).flatMap ndC), HA.row w_27' 3 1 z.length (z.flatMap t0), HA.blk b_1' (.cells [w_26', w_17'].toArray 52 (0, 0)), HA.row w_26' 63 261 n_24'.length (n_24'.flatMap ndC), HA.row w_17' 54 6 f_12'.length (f_12'.flatMap frC), HA.row (Value.slice none 0 0) 63 261 ([] : List ND).length (([] : List ND).flatMap ndC), HA.blk b (.cells [Value.slice none 0 0, zI 0].toArray 32 (0, 0))]) [1, 0, 2, 3, 4, 5, 6, 7] rfl rfl ?_
       refine WL.callS1 ac4 rfl (fun R hR => ax6 _ n_24' ((f_12'.getD ((0 : Int)).toNat default).2.1) R hR b_15' (Value.slice none 0 0) ([] : List ND) 0 o_97') rfl (LOk.row 2 rfl) trivial rfl rfl (fun r H' hS => ?_) (fun c H' hS => ?_)
       ·obtain ⟨w_28', l_4', r, hc, ho⟩ := hS
        cases ho
        replace h := h l_4' r hc
        refine wv (OV.fieldAddr0 rfl ah5) ?_
        refine WL.store (vs := [zI r]) (cs' := [w_28', zI r]) 0 rfl rfl rfl rfl g9 (Nat.le_of_ble_eq_true rfl) rfl rfl rfl ?_
        refine WL.nil ?_
        refine kg (hK_210' [(2, zP b), (20, zP b_15')] _ ?_)
        refine a6 (fun _ hK_211' => ?_)
        refine a4 ?_
        refine wv (OV.loadR rfl (At.own 0 rfl) x4) ?_
        refine WL.rowOne 1 rfl (fun hone => ?_)
        refine WL.storeW (vs := [w_28', zI r]) 7 rfl rfl rfl rfl rfl aah rfl (d4 hone (d4 rfl m6)) rfl ?_
        refine wa ?_
        refine wa ?_
        refine WL.nil ?_
        refine kg (hK_211' [(2, zP b), (3, zI 0), (4, zI 0)] _ ?_)
        refine c9 ?_
        exact hE.ret [1] rfl rfl (.inl ⟨_, _, _, _, _, h, rfl⟩) (f9.of3 rfl (RV.row rfl (At.own 7 rfl) x4) (RV.tmp rfl) (RV.tmp rfl))
       ·obtain ⟨w_28', l_4', r, hc, ho⟩ := hS
        cases ho
     ·obtain ⟨w_27', z, hc, ho⟩ := hS
      cases ho
    ·obtain ⟨w_26', n_24', f_12', hc, ho⟩ := hS
     cases ho
noncomputable def reN (t : List UInt8) : List ND := match w7 t with
 | .ok x => t6 0 x
 | .error _ => []
noncomputable def q8 (t : List UInt8) : Int := match w7 t with
 | .ok x => (x.size : Int) - 1
 | .error _ => 0
def alu (t : List UInt8) (n : List ND) (r e p : Int) : Prop := n = reN t ∧ r = q8 t ∧ (e, p) = m3 t
theorem ais {t : List UInt8} {e p : Int} (h : w7 t = .error (e, p)) : alu t [] 0 e p := by
 refine ⟨?_, ?_, ?_⟩
 ·unfold reN; rw [h]
 ·unfold q8; rw [h]
 ·unfold m3; rw [h]
theorem av5 {t : List UInt8} {x : Tr} (h : w7 t = .ok x) : alu t (t6 0 x) ((x.size : Int) - 1) 0 0 := by
 refine ⟨?_, ?_, ?_⟩
 ·unfold reN; rw [h]
 ·unfold q8; rw [h]
 ·unfold m3; rw [h]
theorem atk {t : List UInt8} (hl : t.length ≤ 1048576) : w7 t = match af3 t with
  | .error e => .error e
  | .ok x => if 2000 < x.size then .error (24, 0) else .ok x := by
 unfold w7; rw [if_neg (by omega)]
 cases af3 t <;> rfl
theorem OwS.err {t : List UInt8} : ∀ {l : List AF} {p : Int} {e : Int × Int} {R : Except (Int × Int) Tr}, OwS t l p (.error e) R → R = .error e
 | [], _, _, _, h => h
 | _ :: _, _, _, _, h => h
theorem a0z.start {t : List UInt8} : a0z t [⟨-1, none, none, 0, none, none⟩] 0 (af3 t) := by
 obtain ⟨q, h1, h2⟩ := ahk t
 refine ⟨q, OwR.start h1, ?_⟩
 cases q with
 | error e => exact h2
 | ok p => exact h2
theorem av0 {t : List UInt8} {i m n k : Int} (h : abv t i = .ok (m, n, k)) : 0 ≤ m := by
 unfold abv at h
 split at h
 ·cases h
 ·rename_i m' j hm
  have h1 := aq4 hm
  split at h
  ·cases h
  ·split at h
   ·split at h
    ·cases h
    ·simp only [Except.ok.injEq, Prod.mk.injEq] at h; omega
   ·cases h
theorem ax0 (c : Int) (y : Tr) (h : c = 42 ∨ c = 43 ∨ c = 63) : ajz y (if c = 43 then -2 else 0) (if c = 63 then 1 else -1) = ak2 c y := by
 rcases h with rfl | rfl | rfl <;> rfl
theorem y8.start : y8 [] [(-1, -1, -1, 0, -1, -1)] [⟨-1, none, none, 0, none, none⟩] := ⟨⟨rfl, rfl, rfl, rfl, rfl, rfl⟩, trivial⟩
structure InvP (t : List UInt8) (i : Int) (st : List FR) (n : List ND) : Prop where
 i0 : 0 ≤ i
 i1 : i ≤ t.length
 s0 : 0 < st.length
 s1 : st.length ≤ 1001
 n1 : (n.length : Int) ≤ 5 * i
 ok : NOK n
 ow : ∃ cs, y8 n st cs ∧ a0z t cs i (af3 t)
theorem akt (t : List UInt8) : d5 Tryd.prog 6 [st t] [] []
  (fun o => ∃ w, o = .ret (.tuple #[.agg [w, .int .i64 (q8 t)].toArray, .int .i64 (m3 t).1, .int .i64 (m3 t).2]) [ndR w (reN t)]) := by
 refine (axc t (fun n r e p => alu t n r e p) ?_).weak ?_
 ·unfold akc
  by_cases hl : 1048576 < t.length
  ·rw [if_pos (by simp only [decide_eq_true_eq]; omega)]
   exact ais (by unfold w7; rw [if_pos hl])
  rw [if_neg (by simp only [decide_eq_true_eq]; omega)]
  have hT := atk (t := t) (by omega)
  have kerr : ∀ {e p : Int}, af3 t = .error (e, p) → alu t [] 0 e p := fun h => ais (by rw [hT, h])
  refine ⟨by simp, fun i st n => InvP t i st n, fun i _ _ => (t.length - i).toNat, ⟨by omega, by omega, by simp, by simp, by simp, fun i h0 h1 => by simp at h1; omega, [⟨-1, none, none, 0, none, none⟩], y8.start, a0z.start⟩, ?_⟩
  rintro i s n ⟨i0, i1, s0, s1, n1, hok, cs, hr, ho⟩
  obtain ⟨pre, f, rfl⟩ := abr s0
  have hpl : (pre ++ [f]).length = pre.length + 1 := by simp
  cases cs with
  | nil => exact ho.elim
  | cons a rest =>
  obtain ⟨r, ho1, ho2⟩ := ho
  have hlen : (pre ++ [f]).length = rest.length + 1 := by
   have := y8.len hr; simpa using this
  have hmu : ∀ j : Int, i < j → i < t.length → ((t.length : Int) - j).toNat < ((t.length : Int) - i).toNat := fun j h1 h2 => by omega
  simp only [afq, aa2, abe]
  by_cases hi : i < t.length
  ·rw [if_pos (by simpa using hi)]
   refine ⟨⟨i0, hi⟩, by unfold I64; omega, by omega, ?_⟩
   have hrf := (y8.snoc.1 hr).1
   have hrr := (y8.snoc.1 hr).2
   obtain ⟨r1, r2, r3, r4, r5, r6⟩ := hrf
   obtain ⟨c, hc⟩ : ∃ c, c = nx t i := ⟨_, rfl⟩
   have hcb := az2 t i
   simp only [show ∀ j : Int, ((t.getD j.toNat 0).toNat : Int) = nx t j from fun _ => rfl]
   by_cases hp : afh t i
   ·-- a sign behind an atom
    rw [if_pos (by unfold afh at hp; simp [ama]; omega)]
    by_cases hf : f.2.2.2.2.2 < 0
    ·rw [if_pos (by simpa using hf)]
     have := ho1.bad hi hp (r6.neg hf).1
     subst this
     exact kerr ho2.err
    rw [if_neg (by simpa using hf)]
    obtain ⟨y, e1, e2⟩ := r6.pos hf
    refine ⟨by unfold I64; omega, fun m => m = if nx t i = 43 then -2 else 0, ?_, ?_⟩
    ·rintro m rfl
     refine ⟨fun k => k = if nx t i = 63 then 1 else -1, ?_, ?_⟩
     ·rintro k rfl
      refine ⟨fun m k j => aiy m k ∧ i < j ∧ j ≤ t.length ∧ OwR t rest.length { a with fac := some (ajz y m k) } j r, ?_, ?_⟩
      ·rintro m k j ⟨q1, q2, q3, q4⟩
       have hd := a0e q1 e2
       refine ⟨by simp; omega, by unfold I64; simp; omega, ⟨by omega, q3, by simp, by simp; omega, by simp; omega, hok.snoc hd, { a with fac := some (ajz y m k) } :: rest, ?_, r, q4, ho2⟩, hmu j q2 hi⟩
       rw [y8.snoc]
       refine ⟨⟨r1, r2.more _, r3.more _, r4, r5.more _, ?_⟩, ali.more _ hrr⟩
       show Den _ _ _
       simpa using hd
      ·by_cases h123 : nx t i = 123
       ·rw [if_pos (by simpa using h123)]
        refine ⟨⟨i0, hi, by omega⟩, ?_⟩
        rintro m k j e p hB
        have hb := ho1.brace hi h123 e1
        rw [apr] at hb
        rcases hB with ⟨rfl, hB⟩ | ⟨he, hB⟩
        ·rw [if_neg (by simp)]
         have hm0 := av0 hB
         have hM := apr t y i
         rw [hB] at hb hM
         simp only at hb hM
         have hj := aiv hM i0 hi
         refine ⟨auh hB, hj.1, hj.2, ?_⟩
         unfold ajz; rw [if_neg (by omega)]; exact hb
        ·rw [if_pos (by simp; omega)]
         rw [hB] at hb
         simp only at hb
         subst hb
         exact kerr ho2.err
       ·rw [if_neg (by simpa using h123)]
        have h3 : nx t i = 42 ∨ nx t i = 43 ∨ nx t i = 63 := by unfold afh at hp; omega
        refine ⟨by unfold aiy; rcases h3 with h | h | h <;> rw [h] <;> simp, by omega, by omega, ?_⟩
        rw [ax0 _ y h3]
        exact ho1.post hi h3 e1
     ·by_cases h63 : nx t i = 63
      ·rw [if_pos (by simpa using h63)]; rw [if_pos h63]
      ·rw [if_neg (by simpa using h63)]; rw [if_neg h63]
    ·by_cases h43 : nx t i = 43
     ·rw [if_pos (by simpa using h43)]; rw [if_pos h43]
     ·rw [if_neg (by simpa using h43)]; rw [if_neg h43]
   rw [if_neg (by unfold afh at hp; simp [ama]; omega)]
   by_cases h124 : nx t i = 124
   ·rw [if_pos (by simpa using h124)]
    refine ⟨by omega, ?_⟩
    rintro n2 s2 ⟨c1, c2, c3⟩
    obtain ⟨c4, c5⟩ := c3 a rest hr hok
    exact ⟨by unfold I64; omega, ⟨by omega, by omega, by omega, by omega, by omega, c5, _, c4, r, ho1.bar hi h124, ho2⟩, hmu _ (by omega) hi⟩
   rw [if_neg (by simpa using h124)]
   by_cases h38 : nx t i = 38 ∨ nx t i = 45
   ·rw [if_pos (by simpa using h38)]
    refine ⟨by omega, ?_⟩
    rintro n2 s2 ⟨c1, c2, c3⟩
    obtain ⟨c4, c5⟩ := c3 a rest hr hok
    obtain ⟨pre2, g, rfl⟩ := abr (s := s2) (by omega)
    have hpl2 : (pre2 ++ [g]).length = pre2.length + 1 := by simp
    simp only [afq, aa2, abe]
    obtain ⟨⟨k1, k2, k3, k4, k5, k6⟩, k7⟩ := y8.snoc.1 c4
    exact ⟨by unfold I64; omega, by omega, by unfold I64; omega, ⟨by omega, by omega, by simp, by simp; omega, by omega, c5, { a.fold with sign := nx t i } :: rest, y8.snoc.2 ⟨⟨k1, k2, k3, rfl, k5, k6⟩, k7⟩, r, ho1.sign hi h38, ho2⟩, hmu _ (by omega) hi⟩
   rw [if_neg (by simpa using h38)]
   by_cases h41 : nx t i = 41
   ·rw [if_pos (by simpa using h41)]
    have he := ho1.end_ (by omega)
    subst he
    by_cases h1 : pre.length = 0
    ·rw [if_pos (by simp only [decide_eq_true_eq]; omega)]
     cases rest with
     | cons g rest => simp only [List.length_append, List.length_cons, List.length_nil] at hlen; omega
     | nil =>
      have ho3 : (if i < t.length then af3 t = .error (20, i) else af3 t = .ok a.whole) := ho2
      rw [if_pos hi] at ho3
      exact kerr ho3
    ·rw [if_neg (by simp only [decide_eq_true_eq]; omega)]
     refine ⟨by omega, ?_⟩
     rintro n2 s2 ⟨c1, c2, c3⟩
     obtain ⟨c4, c5⟩ := c3 a rest hr hok
     obtain ⟨pre2, q, rfl⟩ := abr (s := s2) (by omega)
     have hpl2 : (pre2 ++ [q]).length = pre2.length + 1 := by simp
     obtain ⟨pre3, g, rfl⟩ := abr (s := pre2) (by omega)
     have hpl3 : (pre3 ++ [g]).length = pre3.length + 1 := by simp
     have htk : (pre3 ++ [g] ++ [q]).take (pre3 ++ [g]).length = pre3 ++ [g] := List.take_left' rfl
     simp only [afq, aa2, abe, htk]
     cases rest with
     | nil => simp only [List.length_append, List.length_cons, List.length_nil] at hlen; omega
     | cons b rest =>
     have ho3 : (if i < t.length then ∃ r', OwR t rest.length { b with fac := some a.whole } (i + 1) r' ∧ OwS t rest b.place r' (af3 t) else af3 t = .error (21, a.place)) := ho2
     rw [if_pos hi] at ho3
     obtain ⟨r', o1, o2⟩ := ho3
     obtain ⟨⟨k1, k2, k3, k4, k5, k6⟩, k7⟩ := y8.snoc.1 c4
     obtain ⟨⟨l1, l2, l3, l4, l5, l6⟩, l7⟩ := y8.snoc.1 k7
     exact ⟨by unfold I64; omega, by omega, by unfold I64; omega, by omega, by unfold I64; omega, by omega, by unfold I64; omega, ⟨by omega, by omega, by simp, by simp; omega, by omega, c5, { b with fac := some a.whole } :: rest, y8.snoc.2 ⟨⟨l1, l2, l3, l4, l5, k2⟩, l7⟩, r', o1, o2⟩, hmu _ (by omega) hi⟩
   rw [if_neg (by simpa using h41)]
   refine ⟨by omega, ?_⟩
   rintro n2 s2 ⟨c1, c2, c3⟩
   obtain ⟨c4, c5⟩ := c3 a rest hr hok
   by_cases h40 : nx t i = 40
   ·rw [if_pos (by simpa using h40)]
    have hop := ho1.open_ hi h40
    by_cases hd : 1000 < s2.length
    ·rw [if_pos (by simp only [decide_eq_true_eq]; omega)]
     rw [if_pos (by omega)] at hop
     subst hop
     exact kerr ho2.err
    ·rw [if_neg (by simp only [decide_eq_true_eq]; omega)]
     rw [if_neg (by omega)] at hop
     obtain ⟨q, p1, p2⟩ := hop
     refine ⟨by omega, by unfold I64; omega, ⟨by omega, by omega, by simp, by simp; omega, by omega, c5, ⟨i, none, none, 0, none, none⟩ :: a.settle :: rest, y8.snoc.2 ⟨⟨rfl, rfl, rfl, rfl, rfl, rfl⟩, c4⟩, q, OwR.start p1, ?_⟩, hmu _ (by omega) hi⟩
     cases q with
     | error e =>
      simp only at p2
      subst p2
      exact ho2.err
     | ok z =>
      obtain ⟨x, k⟩ := z
      simp only at p2
      show (if k < t.length then ∃ r', OwR t rest.length { a.settle with fac := some x } (k + 1) r' ∧ OwS t rest a.place r' (af3 t) else af3 t = .error (21, i))
      split
      ·rename_i hk; rw [if_pos hk] at p2; exact ⟨r, p2, ho2⟩
      ·rename_i hk; rw [if_neg hk] at p2; subst p2; exact ho2.err
   rw [if_neg (by simpa using h40)]
   refine ⟨by omega, ?_⟩
   rintro fs hfs
   have hst := ho1.set hi ⟨by omega, by omega, by omega, by omega, hp⟩ h40
   rcases hM : l8 t i with ⟨S, k, e, p⟩
   rw [hM] at hst hfs
   simp only at hst hfs ⊢
   by_cases he : e = 0
   ·rw [if_neg (by simp [he])]
    have hp0 : p = 0 := by
     by_cases hp0 : p = 0
     ·exact hp0
     ·have := ao4 hM (fun h => hp0 h.2); omega
    subst he; subst hp0
    rw [if_pos ⟨rfl, rfl⟩] at hst
    have hk := ag1 hM i0
    obtain ⟨pre2, g, rfl⟩ := abr (s := s2) (by omega)
    have hpl2 : (pre2 ++ [g]).length = pre2.length + 1 := by simp
    simp only [afq, aa2, abe]
    obtain ⟨⟨k1, k2, k3, k4, k5, k6⟩, k7⟩ := y8.snoc.1 c4
    have hd := avd n2 hfs
    refine ⟨by omega, by unfold I64; omega, by unfold I64; simp; omega, by omega, ⟨by omega, hk.2, by simp, by simp; omega, by simp; omega, c5.snoc hd, { a.settle with fac := some (.cls S) } :: rest, y8.snoc.2 ⟨⟨k1, k2.more _, k3.more _, k4, k5.more _, ?_⟩, ali.more _ k7⟩, r, hst, ho2⟩, hmu _ hk.1 hi⟩
    show Den _ _ _
    simpa using hd
   ·rw [if_pos (by simpa using he)]
    rw [if_neg (fun h => he h.1)] at hst
    subst hst
    exact kerr ho2.err
  ·rw [if_neg (by simpa using hi)]
   have he := ho1.end_ (by omega)
   subst he
   obtain ⟨r1, -⟩ := (y8.snoc.1 hr).1
   by_cases h1 : pre.length = 0
   ·rw [if_neg (by simp only [decide_eq_true_eq]; omega)]
    cases rest with
    | cons g rest => simp only [List.length_append, List.length_cons, List.length_nil] at hlen; omega
    | nil =>
    have ho3 : (if i < t.length then af3 t = .error (20, i) else af3 t = .ok a.whole) := ho2
    rw [if_neg hi] at ho3
    refine ⟨by omega, ?_⟩
    rintro n2 s2 ⟨c1, c2, c3⟩
    obtain ⟨c4, c5⟩ := c3 a [] hr hok
    obtain ⟨pre2, g, rfl⟩ := abr (s := s2) (by omega)
    have hp2 : pre2 = [] := List.eq_nil_of_length_eq_zero (by simp at c1; omega)
    subst hp2
    obtain ⟨⟨k1, k2, k3, k4, k5, k6⟩, k7⟩ := y8.snoc.1 c4
    have hx : Den n2 g.2.1 a.whole := k2
    refine ⟨by simp, ⟨by omega, c5⟩, ?_⟩
    rintro z ⟨z1, z2⟩
    have hz := z2 _ _ hx
    have hlt := hx.lt
    show (0 ≤ g.2.1 ∧ g.2.1 < (z.length : Int)) ∧ (if decide (2000 < z.getD g.2.1.toNat default) = true then _ else ajy n2 g.2.1 [] ∧ ∀ (l : List ND) (q : Int), ah2 n2 g.2.1 [] l q → _)
    rw [hz]
    refine ⟨by omega, ?_⟩
    by_cases hbig : 2000 < a.whole.size
    ·rw [if_pos (by simp only [decide_eq_true_eq]; omega)]
     exact ais (by rw [hT, ho3]; simp only [if_pos hbig])
    ·rw [if_neg (by simp only [decide_eq_true_eq]; omega)]
     refine ⟨⟨c5, _, hx, by simp; omega⟩, ?_⟩
     rintro l q ⟨x, hx', g1, g2⟩
     obtain rfl := hx.det hx'
     have := av5 (t := t) (x := a.whole) (by rw [hT, ho3]; simp only [if_neg hbig])
     have e1 : l = t6 0 a.whole := by rw [g1]; simp
     have e2 : q = (a.whole.size : Int) - 1 := by rw [g2]; simp
     rw [e1, e2]; exact this
   ·rw [if_pos (by simp only [decide_eq_true_eq]; omega)]
    cases rest with
    | nil => simp only [List.length_append, List.length_cons, List.length_nil] at hlen; omega
    | cons b rest =>
    have ho3 : (if i < t.length then ∃ r', OwR t rest.length { b with fac := some a.whole } (i + 1) r' ∧ OwS t rest b.place r' (af3 t) else af3 t = .error (21, a.place)) := ho2
    rw [if_neg hi] at ho3
    refine ⟨by unfold I64; omega, by omega, ?_⟩
    rw [r1]; exact kerr ho3
 ·rintro o (⟨w, n, r, e, p, ⟨h1, h2, h3⟩, rfl⟩ | h)
  ·refine ⟨w, ?_⟩
   rw [← h3, ← h1, ← h2]
  ·exact h.elim
end Go.Proofs.YtffhedoahdgniaaDoor
set_option maxRecDepth 100000
namespace Go.Proofs.YtffhedoahdgniaaDoor
open Go Go.RowKit
noncomputable def u6 (n : List ND) (i : Int) : Tr := open Classical in if h : ∃ x, Den n i x then Classical.choose h else .none
theorem ade {n : List ND} {i : Int} {x : Tr} (h : Den n i x) : u6 n i = x := by
 have hx : ∃ x, Den n i x := ⟨x, h⟩
 unfold u6
 rw [dif_pos hx]
 exact (Classical.choose_spec hx).det h
def azf (n : List ND) : Prop := ∀ i : Int, 0 ≤ i → i < n.length → (nd n i).1 ≠ 7
def azq (n : List ND) (i : Int) : Prop := azf n ∧ n.length ≤ 1099511627776 ∧ ∃ x, Den n i x ∧ x.size ≤ 1099511627776
theorem aql (n : List ND) (j : Int) : n.getD j.toNat default = nd n j := Eq.trans rfl rfl
theorem ai8 {op : Int} {a b : Tr} (ho : op = 2 ∨ op = 3 ∨ op = 5 ∨ op = 6) (ha : ∀ pre post : List ND, Den (pre ++ t6 pre.length a ++ post) (((pre.length + a.size : Nat) : Int) - 1) a) (hb : ∀ pre post : List ND, Den (pre ++ t6 pre.length b ++ post) (((pre.length + b.size : Nat) : Int) - 1) b) (pre post : List ND) :
  Den (pre ++ t6 pre.length (ag3 op a b) ++ post) (((pre.length + (ag3 op a b).size : Nat) : Int) - 1) (ag3 op a b) := by
 have h1 := ha pre []
 rw [List.append_nil] at h1
 have hl : (pre ++ t6 pre.length a).length = pre.length + a.size := by rw [List.length_append, abw]
 have h2 := hb (pre ++ t6 pre.length a) []
 rw [List.append_nil, hl] at h2
 have h3 := (als ho (h1.more (t6 (pre.length + a.size) b)) h2).more post
 have hn : (pre ++ t6 pre.length a ++ t6 (pre.length + a.size) b).length = pre.length + a.size + b.size := by rw [List.length_append, hl, abw]
 rw [hn] at h3
 rw [apg op a b _ ho, ahd, show (((pre.length + (1 + a.size + b.size) : Nat) : Int) - 1) = ((pre.length + a.size + b.size : Nat) : Int) by omega]
 simpa only [List.append_assoc] using h3
theorem ab4 : ∀ (x : Tr), x.solid → ∀ (pre post : List ND), Den (pre ++ t6 pre.length x ++ post) (((pre.length + x.size : Nat) : Int) - 1) x
 | .none, h, _, _ => h.elim
 | .eps, _, pre, post => by
  have := (arf pre).more post
  simpa [t6, Tr.size] using this
 | .cls s, _, pre, post => by
  have := (avd (s := s) (f := fun j => BitVec.getLsbD s j) pre fun _ _ => rfl).more post
  simpa [t6, Tr.size] using this
 | .star a, h, pre, post => by
  have h1 := ab4 a h pre []
  rw [List.append_nil] at h1
  have e := aep (pre ++ t6 pre.length a) (4, fun _ => false, ((pre.length + a.size : Nat) : Int) - 1, 0, 0, 0)
  have hp := a.size_pos
  have hl : (pre ++ t6 pre.length a).length = pre.length + a.size := by rw [List.length_append, abw]
  have := Den.star (n := pre ++ t6 pre.length a ++ [(4, fun _ => false, ((pre.length + a.size : Nat) : Int) - 1, 0, 0, 0)]) (i := (pre ++ t6 pre.length a).length) (x := a) (by omega) (by simp only [List.length_append, List.length_cons, List.length_nil]; omega) (by rw [e]) (by rw [e]; show ((pre.length + a.size : Nat) : Int) - 1 < _; omega) (by rw [e]; exact h1.more _)
  have := this.more post
  rw [hl] at this
  simp only [t6, Tr.size]
  rw [show (((pre.length + (1 + a.size) : Nat) : Int) - 1) = ((pre.length + a.size : Nat) : Int) by omega]
  simpa only [List.append_assoc] using this
 | .cat a b, h, pre, post => ai8 (op := 2) (.inl rfl) (ab4 a h.1) (ab4 b h.2) pre post
 | .alt a b, h, pre, post => ai8 (op := 3) (.inr (.inl rfl)) (ab4 a h.1) (ab4 b h.2) pre post
 | .and a b, h, pre, post => ai8 (op := 5) (.inr (.inr (.inl rfl))) (ab4 a h.1) (ab4 b h.2) pre post
 | .minus a b, h, pre, post => ai8 (op := 6) (.inr (.inr (.inr rfl))) (ab4 a h.1) (ab4 b h.2) pre post
theorem ajt : ∀ (x : Tr) (o : Nat), ∀ d ∈ t6 o x, d.1 ≠ 7
 | .none, o, d, h | .eps, o, d, h | .cls _, o, d, h => by
  simp only [t6, List.mem_singleton] at h; rw [h]; simp
 | .cat a b, o, d, h | .alt a b, o, d, h | .and a b, o, d, h | .minus a b, o, d, h => by
  simp only [t6, List.mem_append, List.mem_singleton] at h
  rcases h with (h | h) | h
  ·exact ajt a _ d h
  ·exact ajt b _ d h
  ·rw [h]; simp
 | .star a, o, d, h => by
  simp only [t6, List.mem_append, List.mem_singleton] at h
  rcases h with h | h
  ·exact ajt a _ d h
  ·rw [h]; simp
theorem at3 (x : Tr) : azf (t6 0 x) := fun i h0 h1 => by
 have hlt : i.toNat < (t6 0 x).length := by omega
 unfold nd
 rw [List.getD_eq_getElem?_getD, List.getElem?_eq_getElem hlt]
 exact ajt x 0 _ (List.getElem_mem hlt)
theorem a1b {t : List UInt8} {x : Tr} (h : w7 t = .ok x) : reN t = t6 0 x ∧ q8 t = (x.size : Int) - 1 ∧ azq (reN t) (q8 t) ∧ u6 (reN t) (q8 t) = x := by
 have e1 : reN t = t6 0 x := by unfold reN; rw [h]
 have e2 : q8 t = (x.size : Int) - 1 := by unfold q8; rw [h]
 obtain ⟨_, hs, hsol, _⟩ := aj8 h
 have hd : Den (t6 0 x) ((x.size : Int) - 1) x := by
  have := ab4 x hsol [] []
  simpa using this
 rw [e1, e2]
 exact ⟨rfl, rfl, ⟨at3 x, by rw [abw]; omega, x, hd, by omega⟩, ade hd⟩
end Go.Proofs.YtffhedoahdgniaaDoor
