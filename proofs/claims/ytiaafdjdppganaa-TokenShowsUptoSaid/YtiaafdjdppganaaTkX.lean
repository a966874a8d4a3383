/-
  TokenShows.
-/
import Derived.Test.YtiaafdjdppganaaTkB
import Derived.Test.YtiaafdjdppganaaGwl
namespace Go.Proofs.Ytiaafdjdppganaa
open Go Go.RowKit

theorem tf_ent_29 : entB Try.prog 29 = true := by kernel_rfl
theorem tf_sl_38 : slB Try.prog 38 39 3 = true := by kernel_rfl
theorem tf_row_39 : RowT Try.prog 39 3 := ⟨by kernel_rfl, by kernel_rfl⟩
theorem tf_zero_39 : zeroB Try.prog 39 = some [Value.int .i64 0, Value.int .i64 0, st []] := by kernel_rfl
theorem tf_size_39 : sizeB Try.prog 39 3 = true := by kernel_rfl
theorem tf_field_39_0 : fieldOff Try.prog 39 0 = some 0 := by kernel_rfl
theorem tf_field_39_1 : fieldOff Try.prog 39 1 = some 1 := by kernel_rfl
theorem tf_field_39_2 : fieldOff Try.prog 39 2 = some 2 := by kernel_rfl
theorem tf_ent_16 : entB Try.prog 16 = true := by kernel_rfl

def rshow_vc (l : List Tok) (K : (List UInt8) → (List Tok) → Prop) : Prop :=
  ∃ (Inv : (List UInt8) → Int → Prop) (mu : (List UInt8) → Int → Nat),
    Inv [] 0 ∧ ∀ (out_3' : List UInt8) (i_1' : Int), Inv out_3' i_1' →
      (if (decide (i_1' < (l.length : Int))) = true then
        ∃ (J0_7' : (List UInt8) → Prop),
          (∀ (out_4' : List UInt8), J0_7' out_4' →
            (I64 (i_1' + 1)) ∧
            Inv out_4' (i_1' + 1) ∧ mu out_4' (i_1' + 1) < mu out_3' i_1') ∧
          (0 ≤ i_1' ∧ i_1' < (l.length : Int)) ∧
          ∃ (J0_8' : Bool → Prop),
            (∀ (t16_5' : Bool), J0_8' t16_5' →
              (if t16_5' = true then
                (0 ≤ i_1' ∧ i_1' < (l.length : Int)) ∧
                (((l.getD (i_1').toNat default).2.2).length + ([32] : List UInt8).length ≤ 9223372036854775807) ∧
                (out_3'.length + (((l.getD (i_1').toNat default).2.2) ++ ([32] : List UInt8)).length ≤ 9223372036854775807) ∧
                J0_7' (out_3' ++ (((l.getD (i_1').toNat default).2.2) ++ ([32] : List UInt8)))
              else
                (if (decide ((l.getD (i_1').toNat default).1 = 2)) = true then
                  (0 ≤ i_1' ∧ i_1' < (l.length : Int)) ∧
                  (((l.getD (i_1').toNat default).2.2).length ≤ 1048576) ∧
                  ((quoteL ((l.getD (i_1').toNat default).2.2)).length + ([32] : List UInt8).length ≤ 9223372036854775807) ∧
                  (out_3'.length + ((quoteL ((l.getD (i_1').toNat default).2.2)) ++ ([32] : List UInt8)).length ≤ 9223372036854775807) ∧
                  J0_7' (out_3' ++ ((quoteL ((l.getD (i_1').toNat default).2.2)) ++ ([32] : List UInt8)))
                else
                  (if (decide ((l.getD (i_1').toNat default).1 = 3)) = true then
                    (0 ≤ i_1' ∧ i_1' < (l.length : Int)) ∧
                    (([47] : List UInt8).length + ((l.getD (i_1').toNat default).2.2).length ≤ 9223372036854775807) ∧
                    ((([47] : List UInt8) ++ ((l.getD (i_1').toNat default).2.2)).length + ([47, 32] : List UInt8).length ≤ 9223372036854775807) ∧
                    (out_3'.length + ((([47] : List UInt8) ++ ((l.getD (i_1').toNat default).2.2)) ++ ([47, 32] : List UInt8)).length ≤ 9223372036854775807) ∧
                    J0_7' (out_3' ++ ((([47] : List UInt8) ++ ((l.getD (i_1').toNat default).2.2)) ++ ([47, 32] : List UInt8)))
                  else
                    J0_7' out_3')))) ∧
            (if (decide ((l.getD (i_1').toNat default).1 = 1)) = true then
              J0_8' (decide ((l.getD (i_1').toNat default).1 = 1))
            else
              J0_8' (decide ((l.getD (i_1').toNat default).1 = 4)))
      else
        K out_3' l)
set_option maxRecDepth 100000 in
theorem rshow_wp (w : Value) (l : List Tok) (K : (List UInt8) → (List Tok) → Prop) (h : rshow_vc l K) :
    Does Try.prog 16 [w] [] [HA.row w 40 3 l.length (l.flatMap tokC)] (fun o => (∃ (v : List UInt8) (d : List Tok), K v d ∧ o = .ret (st v) [HA.row w 40 3 d.length (d.flatMap tokC)]) ∨ (False)) := by
  unfold rshow_vc at h
  refine does_of_wc (n := 50) (L0 := [(0, w)]) Try.func16 rfl rfl rfl rfl (fun w0 M Q hE => ?_)
  refine wc_seq (fun K0 hK => ?_)
  refine wc_region ?_
  refine WL.val (OV.assign rfl) rfl rfl rfl ?_
  refine WL.nil ?_
  refine KX.go (hK [(0, w)] _ ?_) ⟨rfl, trivial⟩
  refine wc_seq (fun K0_1' hK_1' => ?_)
  refine wc_region ?_
  refine WL.val (OV.assign rfl) rfl rfl rfl ?_
  refine WL.nil ?_
  refine KX.go (hK_1' [(0, w), (3, st [])] _ ?_) ⟨rfl, rfl, trivial⟩
  refine wc_seq (fun K0_2' hK_2' => ?_)
  refine wc_seq (fun K0_3' hK_3' => ?_)
  refine wc_region ?_
  refine WL.val (OV.assign rfl) rfl rfl rfl ?_
  refine WL.nil ?_
  refine KX.go (hK_3' [(0, w), (3, st []), (4, Value.int .i64 0)] _ ?_) ⟨rfl, rfl, rfl, trivial⟩
  refine wc_block ?_
  obtain ⟨Inv, mu, h0, hr⟩ := h
  refine wc_loop (S := (List UInt8) × Int) (fun σ => Inv σ.1 σ.2) (fun σ => mu σ.1 σ.2) (fun σ => [(0, w), (3, st σ.1), (4, Value.int .i64 σ.2)]) (fun σ => [HA.row w 40 3 l.length (l.flatMap tokC)]) ([], 0) h0 ⟨rfl, rfl, rfl, trivial⟩ rfl ?_
  rintro ⟨out_3', i_1'⟩ hi K0_34' hK_34'
  have h := hr out_3' i_1' hi
  show WC _ _ _ _ [(0, w), (3, st out_3'), (4, Value.int .i64 i_1')] [HA.row w 40 3 l.length (l.flatMap tokC)]
  refine wc_seq (fun K0_35' hK_35' => ?_)
  refine wc_seq (fun K0_36' hK_36' => ?_)
  refine wc_region ?_
  refine WL.val (OV.move rfl) rfl rfl rfl ?_
  refine WL.val (OV.move rfl) rfl rfl rfl ?_
  refine WL.val (OV.lenRow 0 rfl rfl tf_sl_23) rfl rfl rfl ?_
  refine WL.val (OV.lss rfl rfl) rfl rfl rfl ?_
  refine WL.nil ?_
  refine KX.go (hK_36' [(0, w), (3, st out_3'), (4, Value.int .i64 i_1'), (8, Value.bool (decide (i_1' < (l.length : Int))))] _ ?_) ⟨rfl, rfl, rfl, rfl, trivial⟩
  refine wc_cond (b := decide (i_1' < (l.length : Int))) rfl (fun hb => ?_) (fun hb => ?_)
  · replace h := if_T h hb
    refine wc_skip ?_
    refine KX.go (hK_35' [(0, w), (3, st out_3'), (4, Value.int .i64 i_1')] _ ?_) ⟨rfl, rfl, rfl, trivial⟩
    obtain ⟨J0_7', hJ_7', h⟩ := h
    refine wc_seqJ (X := (List UInt8)) (fun σ => J0_7' σ) (fun σ => [(0, w), (3, st σ), (4, Value.int .i64 i_1')]) (fun σ => [HA.row w 40 3 l.length (l.flatMap tokC)]) ?_ (fun K0_43' hK_43' => ?_)
    · rintro out_4' hj
      replace h := hJ_7' out_4' hj
      show WC _ _ _ _ [(0, w), (3, st out_4'), (4, Value.int .i64 i_1')] [HA.row w 40 3 l.length (l.flatMap tokC)]
      refine wc_region ?_
      refine WL.val (OV.move rfl) rfl rfl rfl ?_
      obtain ⟨o_61', h⟩ := h
      refine WL.val (OV.add rfl rfl o_61') rfl rfl rfl ?_
      refine WL.val (OV.assign rfl) rfl rfl rfl ?_
      refine WL.nil ?_
      exact KX.goH (hK_34' (out_4', i_1' + 1) h.1 h.2) ⟨rfl, rfl, rfl, trivial⟩ [0] rfl rfl
    · skip
      refine wc_block ?_
      refine wc_seq (fun K0_44' hK_44' => ?_)
      refine wc_region ?_
      refine WL.val (OV.move rfl) rfl rfl rfl ?_
      refine WL.val (OV.move rfl) rfl rfl rfl ?_
      obtain ⟨o_62', h⟩ := h
      refine WL.val (OV.indexRow 0 rfl rfl rfl tf_sl_23 o_62') rfl rfl rfl ?_
      refine WL.val (OV.fieldAddr rfl tf_field_40_0) rfl rfl rfl ?_
      refine WL.val (OV.loadEF (f := tokC) (o := 0) 0 rfl rfl tokC_len (by omega) rfl tf_scal_3) rfl rfl rfl ?_
      refine WL.nil ?_
      refine KX.go (hK_44' [(0, w), (3, st out_3'), (4, Value.int .i64 i_1'), (15, Value.int .i64 ((l.getD (i_1').toNat default).1))] _ ?_) ⟨rfl, rfl, rfl, rfl, trivial⟩
      refine wc_block ?_
      obtain ⟨J0_8', hJ_8', h⟩ := h
      refine wc_seqJ (X := Bool) (fun σ => J0_8' σ) (fun σ => [(0, w), (3, st out_3'), (4, Value.int .i64 i_1'), (15, Value.int .i64 ((l.getD (i_1').toNat default).1)), (16, Value.bool σ)]) (fun σ => [HA.row w 40 3 l.length (l.flatMap tokC)]) ?_ (fun K0_46' hK_46' => ?_)
      · rintro t16_5' hj
        replace h := hJ_8' t16_5' hj
        show WC _ _ _ _ [(0, w), (3, st out_3'), (4, Value.int .i64 i_1'), (15, Value.int .i64 ((l.getD (i_1').toNat default).1)), (16, Value.bool t16_5')] [HA.row w 40 3 l.length (l.flatMap tokC)]
        refine wc_cond (b := t16_5') rfl (fun hb => ?_) (fun hb => ?_)
        · replace h := if_T h hb
          refine wc_region ?_
          refine WL.val (OV.move rfl) rfl rfl rfl ?_
          refine WL.val (OV.move rfl) rfl rfl rfl ?_
          refine WL.val (OV.move rfl) rfl rfl rfl ?_
          obtain ⟨o_63', h⟩ := h
          refine WL.val (OV.indexRow 0 rfl rfl rfl tf_sl_23 o_63') rfl rfl rfl ?_
          refine WL.val (OV.fieldAddr rfl tf_field_40_2) rfl rfl rfl ?_
          refine WL.val (OV.loadEF (f := tokC) (o := 2) 0 rfl rfl tokC_len (by omega) rfl tf_scal_9) rfl rfl rfl ?_
          obtain ⟨o_64', h⟩ := h
          refine WL.val (OV.cat rfl rfl o_64') rfl rfl rfl ?_
          obtain ⟨o_65', h⟩ := h
          refine WL.val (OV.cat rfl rfl o_65') rfl rfl rfl ?_
          refine WL.val (OV.assign rfl) rfl rfl rfl ?_
          refine WL.nil ?_
          exact KX.goH (hK_43' (out_3' ++ (((l.getD (i_1').toNat default).2.2) ++ ([32] : List UInt8))) h) ⟨rfl, rfl, rfl, trivial⟩ [0] rfl rfl
        · replace h := if_F h hb
          refine wc_seq (fun K0_47' hK_47' => ?_)
          refine wc_region ?_
          refine WL.val (OV.eql rfl rfl) rfl rfl rfl ?_
          refine WL.val (OV.assign rfl) rfl rfl rfl ?_
          refine WL.nil ?_
          refine KX.go (hK_47' [(0, w), (3, st out_3'), (4, Value.int .i64 i_1'), (15, Value.int .i64 ((l.getD (i_1').toNat default).1)), (27, Value.bool (decide ((l.getD (i_1').toNat default).1 = 2)))] _ ?_) ⟨rfl, rfl, rfl, rfl, rfl, trivial⟩
          refine wc_cond (b := decide ((l.getD (i_1').toNat default).1 = 2)) rfl (fun hb => ?_) (fun hb => ?_)
          · replace h := if_T h hb
            refine wc_region ?_
            refine WL.val (OV.move rfl) rfl rfl rfl ?_
            refine WL.val (OV.move rfl) rfl rfl rfl ?_
            refine WL.val (OV.move rfl) rfl rfl rfl ?_
            obtain ⟨o_66', h⟩ := h
            refine WL.val (OV.indexRow 0 rfl rfl rfl tf_sl_23 o_66') rfl rfl rfl ?_
            refine WL.val (OV.fieldAddr rfl tf_field_40_2) rfl rfl rfl ?_
            refine WL.val (OV.loadEF (f := tokC) (o := 2) 0 rfl rfl tokC_len (by omega) rfl tf_scal_9) rfl rfl rfl ?_
            obtain ⟨o_67', h⟩ := h
            refine WL.call (A := []) tf_ent_29 rfl (refquote_does ((l.getD (i_1').toNat default).2.2) o_67') rfl trivial rfl rfl ?_
            obtain ⟨o_68', h⟩ := h
            refine WL.val (OV.cat rfl rfl o_68') rfl rfl rfl ?_
            obtain ⟨o_69', h⟩ := h
            refine WL.val (OV.cat rfl rfl o_69') rfl rfl rfl ?_
            refine WL.val (OV.assign rfl) rfl rfl rfl ?_
            refine WL.nil ?_
            exact KX.goH (hK_43' (out_3' ++ ((quoteL ((l.getD (i_1').toNat default).2.2)) ++ ([32] : List UInt8))) h) ⟨rfl, rfl, rfl, trivial⟩ [0] rfl rfl
          · replace h := if_F h hb
            refine wc_seq (fun K0_48' hK_48' => ?_)
            refine wc_region ?_
            refine WL.val (OV.eql rfl rfl) rfl rfl rfl ?_
            refine WL.val (OV.assign rfl) rfl rfl rfl ?_
            refine WL.nil ?_
            refine KX.go (hK_48' [(0, w), (3, st out_3'), (4, Value.int .i64 i_1'), (38, Value.bool (decide ((l.getD (i_1').toNat default).1 = 3)))] _ ?_) ⟨rfl, rfl, rfl, rfl, trivial⟩
            refine wc_cond (b := decide ((l.getD (i_1').toNat default).1 = 3)) rfl (fun hb => ?_) (fun hb => ?_)
            · replace h := if_T h hb
              refine wc_region ?_
              refine WL.val (OV.move rfl) rfl rfl rfl ?_
              refine WL.val (OV.move rfl) rfl rfl rfl ?_
              refine WL.val (OV.move rfl) rfl rfl rfl ?_
              obtain ⟨o_70', h⟩ := h
              refine WL.val (OV.indexRow 0 rfl rfl rfl tf_sl_23 o_70') rfl rfl rfl ?_
              refine WL.val (OV.fieldAddr rfl tf_field_40_2) rfl rfl rfl ?_
              refine WL.val (OV.loadEF (f := tokC) (o := 2) 0 rfl rfl tokC_len (by omega) rfl tf_scal_9) rfl rfl rfl ?_
              obtain ⟨o_71', h⟩ := h
              refine WL.val (OV.cat rfl rfl o_71') rfl rfl rfl ?_
              obtain ⟨o_72', h⟩ := h
              refine WL.val (OV.cat rfl rfl o_72') rfl rfl rfl ?_
              obtain ⟨o_73', h⟩ := h
              refine WL.val (OV.cat rfl rfl o_73') rfl rfl rfl ?_
              refine WL.val (OV.assign rfl) rfl rfl rfl ?_
              refine WL.nil ?_
              exact KX.goH (hK_43' (out_3' ++ ((([47] : List UInt8) ++ ((l.getD (i_1').toNat default).2.2)) ++ ([47, 32] : List UInt8))) h) ⟨rfl, rfl, rfl, trivial⟩ [0] rfl rfl
            · replace h := if_F h hb
              refine wc_skip ?_
              exact KX.goH (hK_43' out_3' h) ⟨rfl, rfl, rfl, trivial⟩ [0] rfl rfl
      · skip
        refine wc_seq (fun K0_49' hK_49' => ?_)
        refine wc_region ?_
        refine WL.val (OV.eql rfl rfl) rfl rfl rfl ?_
        refine WL.val (OV.assign rfl) rfl rfl rfl ?_
        refine WL.nil ?_
        refine KX.go (hK_49' [(0, w), (3, st out_3'), (4, Value.int .i64 i_1'), (15, Value.int .i64 ((l.getD (i_1').toNat default).1)), (16, Value.bool (decide ((l.getD (i_1').toNat default).1 = 1)))] _ ?_) ⟨rfl, rfl, rfl, rfl, rfl, trivial⟩
        refine wc_cond (b := decide ((l.getD (i_1').toNat default).1 = 1)) rfl (fun hb => ?_) (fun hb => ?_)
        · replace h := if_T h hb
          refine wc_skip ?_
          exact KX.goH (hK_46' (decide ((l.getD (i_1').toNat default).1 = 1)) h) ⟨rfl, rfl, rfl, rfl, rfl, trivial⟩ [0] rfl rfl
        · replace h := if_F h hb
          refine wc_region ?_
          refine WL.val (OV.eql rfl rfl) rfl rfl rfl ?_
          refine WL.val (OV.assign rfl) rfl rfl rfl ?_
          refine WL.nil ?_
          exact KX.goH (hK_46' (decide ((l.getD (i_1').toNat default).1 = 4)) h) ⟨rfl, rfl, rfl, rfl, rfl, trivial⟩ [0] rfl rfl
  · replace h := if_F h hb
    refine wc_exit ?_
    refine KX.go (hK_2' [(3, st out_3')] _ ?_) ⟨rfl, trivial⟩
    refine wc_seq (fun K0_50' hK_50' => ?_)
    refine wc_region ?_
    refine WL.val (OV.move rfl) rfl rfl rfl ?_
    refine WL.val (OV.assign rfl) rfl rfl rfl ?_
    refine WL.nil ?_
    refine KX.go (hK_50' [(2, st out_3')] _ ?_) ⟨rfl, trivial⟩
    refine wc_ret ?_
    exact hE.ret [0] rfl rfl (.inl ⟨_, _, h, rfl⟩) (ResV.of1 rfl (RV.tmp rfl))

theorem refshow_does (w : Value) (l : List Tok) (h : ShowBd l) : Does Try.prog 16 [w] [] [HA.row w 40 3 l.length (l.flatMap tokC)] (Ret (st (showL l)) [HA.row w 40 3 l.length (l.flatMap tokC)]) := by
  refine (rshow_wp w l (fun r d => r = showL l ∧ d = l) ?_).weak (by rintro o (⟨v, d, ⟨rfl, rfl⟩, rfl⟩ | h) <;> first | rfl | exact h.elim)
  unfold rshow_vc
  refine ⟨fun out i => 0 ≤ i ∧ i ≤ l.length ∧ out = showL (l.take i.toNat), fun _ i => (l.length - i).toNat, ⟨by omega, by omega, rfl⟩, fun out i ⟨h0, h1, ho⟩ => ?_⟩
  by_cases hi : i < (l.length : Int)
  · rw [if_pos (by simpa using hi)]
    have hmem : l.getD i.toNat default ∈ l := by
      rw [List.getD_eq_getElem?_getD, List.getElem?_eq_getElem (by omega)]; exact List.getElem_mem _
    have hx := h.2 _ hmem
    have hn := h.1
    have hol : out.length ≤ 35184397320192 := by
      rw [ho]
      have h2 := showL_len (l.take i.toNat) fun y hy => h.2 y (List.mem_of_mem_take hy)
      have h3 : (l.take i.toNat).length ≤ 8388608 := by rw [List.length_take]; omega
      have h4 : (l.take i.toNat).length * 4194307 ≤ 8388608 * 4194307 := Nat.mul_le_mul_right _ h3
      omega
    have hs := take_show ⟨h0, hi⟩
    have hql := quoteL_len (l.getD i.toNat default).2.2
    generalize l.getD i.toNat default = x at hx hs hql ⊢
    refine ⟨fun o => o = showL (l.take (i + 1).toNat), fun o hJ => ⟨⟨by omega, by omega⟩, ⟨by omega, by omega, hJ⟩, by show (l.length - (i + 1)).toNat < (l.length - i).toNat; omega⟩, ⟨h0, hi⟩, fun c => c = decide (x.1 = 1 ∨ x.1 = 4), fun c hc => ?_, ?_⟩
    · subst hc
      rw [hs, ← ho]
      unfold showTok
      by_cases c1 : x.1 = 1 ∨ x.1 = 4
      · rw [if_pos (by simpa using c1), if_pos c1]
        exact ⟨⟨h0, hi⟩, by simp; omega, by simp; omega, rfl⟩
      · rw [if_neg (by simpa using c1), if_neg c1]
        by_cases c2 : x.1 = 2
        · rw [if_pos (by simpa using c2), if_pos c2]
          exact ⟨⟨h0, hi⟩, hx, by simp; omega, by simp; omega, rfl⟩
        · rw [if_neg (by simpa using c2), if_neg c2]
          by_cases c3 : x.1 = 3
          · rw [if_pos (by simpa using c3), if_pos c3]
            exact ⟨⟨h0, hi⟩, by simp; omega, by simp; omega, by simp; omega, rfl⟩
          · rw [if_neg (by simpa using c3), if_neg c3]; simp
    · by_cases c1 : x.1 = 1
      · rw [if_pos (by simpa using c1)]; simp [c1]
      · rw [if_neg (by simpa using c1)]; simp [c1]
  · rw [if_neg (by simpa using hi)]
    rw [ho, List.take_of_length_le (by omega)]
    exact ⟨rfl, rfl⟩

def lshows_vc (pieces : List Tok) (K : Bool → Prop) : Prop :=
  ∃ (Inv : Int → (List Tok) → (List Tok) → Prop) (mu : Int → (List Tok) → (List Tok) → Nat),
    Inv 0 [] [] ∧ ∀ (i_1' : Int) (l_2' : List Tok) (l_3' : List Tok), Inv i_1' l_2' l_3' →
      (if (decide (i_1' < (pieces.length : Int))) = true then
        (0 ≤ i_1' ∧ i_1' < (pieces.length : Int)) ∧
        (((l_3'.length + 1) + (l_3'.length + 1) / 4 + 192) * 32 ≤ 281474976710656 ∧ l_3'.length + 1 ≤ 9223372036854775807) ∧
        (((l_2'.length + 1) + (l_2'.length + 1) / 4 + 192) * 32 ≤ 281474976710656 ∧ l_2'.length + 1 ≤ 9223372036854775807) ∧
        (I64 (i_1' + 1)) ∧
        Inv (i_1' + 1) (l_2' ++ [((pieces.getD (i_1').toNat default).1, (pieces.getD (i_1').toNat default).2.1, (pieces.getD (i_1').toNat default).2.2)]) (l_3' ++ [((pieces.getD (i_1').toNat default).1, (pieces.getD (i_1').toNat default).2.1, (pieces.getD (i_1').toNat default).2.2)]) ∧ mu (i_1' + 1) (l_2' ++ [((pieces.getD (i_1').toNat default).1, (pieces.getD (i_1').toNat default).2.1, (pieces.getD (i_1').toNat default).2.2)]) (l_3' ++ [((pieces.getD (i_1').toNat default).1, (pieces.getD (i_1').toNat default).2.1, (pieces.getD (i_1').toNat default).2.2)]) < mu i_1' l_2' l_3'
      else
        (ShowBd l_3') ∧
        (ShowBd l_2') ∧
        ((decide (showL l_3' = showL l_2')) = true → (l_3'.length ≤ 9223372036854775807)) ∧
        K ((decide (showL l_3' = showL l_2')) && (decide (l_3' = l_2'))))
set_option maxRecDepth 100000 in
theorem lshows_wp (w : Value) (pieces : List Tok) (Ri1 : List (Nat × Obj)) (hRi1 : InSl w Ri1 pieces.length (pieces.flatMap tokC)) (K : Bool → Prop) (h : lshows_vc pieces K) :
    Does Try.prog 7 [w] (Ri1 ++ []) [] (fun o => (∃ (v : Bool), K v ∧ o = .ret (Value.bool v) []) ∨ (False)) := by
  unfold lshows_vc at h
  refine does_of_wc (n := 49) (L0 := [(0, w)]) Try.func7 rfl rfl rfl rfl (fun w0 M Q hE => ?_)
  have hi1 : LIn ⟨49, [], w0, M, (Ri1 ++ [])⟩ w pieces.length (pieces.flatMap tokC) := LIn.mk hRi1 (fun p hp => by simp [hp])
  refine wc_seq (fun K0 hK => ?_)
  refine wc_region ?_
  refine WL.val (OV.assign rfl) rfl rfl rfl ?_
  refine WL.nil ?_
  refine KX.go (hK [(0, w)] _ ?_) ⟨rfl, trivial⟩
  refine wc_seq (fun K0_1' hK_1' => ?_)
  refine wc_seq (fun K0_2' hK_2' => ?_)
  refine wc_region ?_
  refine WL.call (A := []) tf_ent_9 rfl (speaks_does) rfl trivial rfl rfl ?_
  refine WL.val (OV.not rfl) rfl rfl rfl ?_
  refine WL.nil ?_
  refine KX.go (hK_2' [(0, w), (8, Value.bool false)] _ ?_) ⟨rfl, rfl, trivial⟩
  refine wc_condF rfl ?_
  refine wc_skip ?_
  refine KX.go (hK_1' [(0, w)] _ ?_) ⟨rfl, trivial⟩
  refine wc_seq (fun K0_3' hK_3' => ?_)
  refine wc_region ?_
  refine WL.val (OV.assign rfl) rfl rfl rfl ?_
  refine WL.nilRow 34 3 tokC ?_
  refine WL.nil ?_
  refine KX.go (hK_3' [(0, w), (3, Value.slice none 0 0)] _ ?_) ⟨rfl, rfl, trivial⟩
  refine wc_seq (fun K0_4' hK_4' => ?_)
  refine wc_region ?_
  refine WL.val (OV.assign rfl) rfl rfl rfl ?_
  refine WL.nilRow 40 3 tokC ?_
  refine WL.nil ?_
  refine KX.go (hK_4' [(0, w), (3, Value.slice none 0 0), (4, Value.slice none 0 0)] _ ?_) ⟨rfl, rfl, rfl, trivial⟩
  refine wc_seq (fun K0_5' hK_5' => ?_)
  refine wc_seq (fun K0_6' hK_6' => ?_)
  refine wc_region ?_
  refine WL.val (OV.assign rfl) rfl rfl rfl ?_
  refine WL.nil ?_
  refine KX.go (hK_6' [(0, w), (3, Value.slice none 0 0), (4, Value.slice none 0 0), (5, Value.int .i64 0)] _ ?_) ⟨rfl, rfl, rfl, rfl, trivial⟩
  refine wc_block ?_
  obtain ⟨Inv, mu, h0, hr⟩ := h
  refine wc_loop (S := Int × Value × (List Tok) × Value × (List Tok)) (fun σ => Inv σ.1 σ.2.2.1 σ.2.2.2.2) (fun σ => mu σ.1 σ.2.2.1 σ.2.2.2.2) (fun σ => [(0, w), (3, σ.2.2.2.1), (4, σ.2.1), (5, Value.int .i64 σ.1)]) (fun σ => [HA.row σ.2.1 40 3 σ.2.2.1.length (σ.2.2.1.flatMap tokC), HA.row σ.2.2.2.1 34 3 σ.2.2.2.2.length (σ.2.2.2.2.flatMap tokC)]) (0, Value.slice none 0 0, [], Value.slice none 0 0, []) h0 ⟨rfl, rfl, rfl, rfl, trivial⟩ rfl ?_
  rintro ⟨i_1', w_7', l_2', w_8', l_3'⟩ hi K0_17' hK_17'
  have h := hr i_1' l_2' l_3' hi
  show WC _ _ _ _ [(0, w), (3, w_8'), (4, w_7'), (5, Value.int .i64 i_1')] [HA.row w_7' 40 3 l_2'.length (l_2'.flatMap tokC), HA.row w_8' 34 3 l_3'.length (l_3'.flatMap tokC)]
  refine wc_seq (fun K0_18' hK_18' => ?_)
  refine wc_seq (fun K0_19' hK_19' => ?_)
  refine wc_region ?_
  refine WL.val (OV.move rfl) rfl rfl rfl ?_
  refine WL.val (OV.move rfl) rfl rfl rfl ?_
  refine WL.val (OV.lenIn hi1 rfl tf_sl_38) rfl rfl rfl ?_
  refine WL.val (OV.lss rfl rfl) rfl rfl rfl ?_
  refine WL.nil ?_
  refine KX.go (hK_19' [(0, w), (3, w_8'), (4, w_7'), (5, Value.int .i64 i_1'), (12, Value.bool (decide (i_1' < (pieces.length : Int))))] _ ?_) ⟨rfl, rfl, rfl, rfl, rfl, trivial⟩
  refine wc_cond (b := decide (i_1' < (pieces.length : Int))) rfl (fun hb => ?_) (fun hb => ?_)
  · replace h := if_T h hb
    refine wc_skip ?_
    refine KX.go (hK_18' [(0, w), (3, w_8'), (4, w_7'), (5, Value.int .i64 i_1')] _ ?_) ⟨rfl, rfl, rfl, rfl, trivial⟩
    refine wc_seq (fun K0_20' hK_20' => ?_)
    refine wc_block ?_
    refine wc_seq (fun K0_21' hK_21' => ?_)
    refine wc_region ?_
    refine WL.val (OV.move rfl) rfl rfl rfl ?_
    refine WL.val (OV.move rfl) rfl rfl rfl ?_
    obtain ⟨o_7', h⟩ := h
    refine WL.val (OV.indexIn hi1 rfl rfl tf_sl_38 o_7') rfl rfl rfl ?_
    refine WL.val (OV.loadInE (f := tokC) hi1 rfl tokC_len (by decide) (by omega) tf_row_39) rfl rfl rfl ?_
    refine WL.make (MV.alloc tf_zero_39) rfl rfl rfl (fun b_6' => ?_)
    refine WL.storeW (vs := [Value.int .i64 ((pieces.getD (i_1').toNat default).1), Value.int .i64 ((pieces.getD (i_1').toNat default).2.1), st ((pieces.getD (i_1').toNat default).2.2)]) 0 rfl rfl rfl rfl rfl tf_size_39 rfl rfl rfl ?_
    refine WL.nil ?_
    refine KX.go (hK_21' [(0, w), (3, w_8'), (4, w_7'), (5, Value.int .i64 i_1'), (6, Value.pointer (some ⟨b_6', 0, none⟩))] _ ?_) ⟨rfl, rfl, rfl, rfl, rfl, trivial⟩
    refine wc_seq (fun K0_22' hK_22' => ?_)
    refine wc_region ?_
    refine WL.val (OV.move rfl) rfl rfl rfl ?_
    refine WL.val (OV.fieldAddr0 rfl tf_field_39_0) rfl rfl rfl ?_
    refine WL.val (OV.load rfl (At.own 0 rfl) rfl tf_scal_3) rfl rfl rfl ?_
    refine WL.val (OV.fieldAddr0 rfl tf_field_39_1) rfl rfl rfl ?_
    refine WL.val (OV.load rfl (At.own 0 rfl) rfl tf_scal_3) rfl rfl rfl ?_
    refine WL.val (OV.fieldAddr0 rfl tf_field_39_2) rfl rfl rfl ?_
    refine WL.val (OV.load rfl (At.own 0 rfl) rfl tf_scal_9) rfl rfl rfl ?_
    refine WL.val (OV.build rfl (cs := [Value.int .i64 ((pieces.getD (i_1').toNat default).1), Value.int .i64 ((pieces.getD (i_1').toNat default).2.1), st ((pieces.getD (i_1').toNat default).2.2)]) rfl) rfl rfl rfl ?_
    refine WL.make (MV.buildSlice (cs := [Value.int .i64 ((pieces.getD (i_1').toNat default).1), Value.int .i64 ((pieces.getD (i_1').toNat default).2.1), st ((pieces.getD (i_1').toNat default).2.2)]) rfl tf_sl_26 (by kernel_rfl)) rfl rfl rfl (fun b_7' => ?_)
    obtain ⟨o_8', h⟩ := h
    refine WL.append (f := tokC) (ms := [((pieces.getD (i_1').toNat default).1, (pieces.getD (i_1').toNat default).2.1, (pieces.getD (i_1').toNat default).2.2)]) 3 0 rfl rfl rfl rfl rfl rfl tokC_len (by decide) rfl tf_sl_26 tf_info_34 rfl o_8' rfl rfl (fun w_9' => ?_)
    refine WL.val (OV.assign rfl) rfl rfl rfl ?_
    refine WL.nil ?_
    refine KX.go (hK_22' [(0, w), (3, w_9'), (4, w_7'), (5, Value.int .i64 i_1'), (6, Value.pointer (some ⟨b_6', 0, none⟩))] _ ?_) ⟨rfl, rfl, rfl, rfl, rfl, trivial⟩
    refine wc_region ?_
    refine WL.val (OV.move rfl) rfl rfl rfl ?_
    refine WL.val (OV.fieldAddr0 rfl tf_field_39_0) rfl rfl rfl ?_
    refine WL.val (OV.load rfl (At.own 1 rfl) rfl tf_scal_3) rfl rfl rfl ?_
    refine WL.val (OV.fieldAddr0 rfl tf_field_39_1) rfl rfl rfl ?_
    refine WL.val (OV.load rfl (At.own 1 rfl) rfl tf_scal_3) rfl rfl rfl ?_
    refine WL.val (OV.fieldAddr0 rfl tf_field_39_2) rfl rfl rfl ?_
    refine WL.val (OV.load rfl (At.own 1 rfl) rfl tf_scal_9) rfl rfl rfl ?_
    refine WL.val (OV.build rfl (cs := [Value.int .i64 ((pieces.getD (i_1').toNat default).1), Value.int .i64 ((pieces.getD (i_1').toNat default).2.1), st ((pieces.getD (i_1').toNat default).2.2)]) rfl) rfl rfl rfl ?_
    refine WL.make (MV.buildSlice (cs := [Value.int .i64 ((pieces.getD (i_1').toNat default).1), Value.int .i64 ((pieces.getD (i_1').toNat default).2.1), st ((pieces.getD (i_1').toNat default).2.2)]) rfl tf_sl_23 (by kernel_rfl)) rfl rfl rfl (fun b_8' => ?_)
    obtain ⟨o_9', h⟩ := h
    refine WL.append (f := tokC) (ms := [((pieces.getD (i_1').toNat default).1, (pieces.getD (i_1').toNat default).2.1, (pieces.getD (i_1').toNat default).2.2)]) 3 0 rfl rfl rfl rfl rfl rfl tokC_len (by decide) rfl tf_sl_23 tf_info_40 rfl o_9' rfl rfl (fun w_10' => ?_)
    refine WL.val (OV.assign rfl) rfl rfl rfl ?_
    refine WL.nil ?_
    refine KX.go (hK_20' [(0, w), (3, w_9'), (4, w_10'), (5, Value.int .i64 i_1')] _ ?_) ⟨rfl, rfl, rfl, rfl, trivial⟩
    refine wc_region ?_
    refine WL.val (OV.move rfl) rfl rfl rfl ?_
    obtain ⟨o_10', h⟩ := h
    refine WL.val (OV.add rfl rfl o_10') rfl rfl rfl ?_
    refine WL.val (OV.assign rfl) rfl rfl rfl ?_
    refine WL.nil ?_
    exact KX.goH (hK_17' (i_1' + 1, w_10', l_2' ++ [((pieces.getD (i_1').toNat default).1, (pieces.getD (i_1').toNat default).2.1, (pieces.getD (i_1').toNat default).2.2)], w_9', l_3' ++ [((pieces.getD (i_1').toNat default).1, (pieces.getD (i_1').toNat default).2.1, (pieces.getD (i_1').toNat default).2.2)]) h.1 h.2) ⟨rfl, rfl, rfl, rfl, trivial⟩ [3, 4] rfl rfl
  · replace h := if_F h hb
    refine wc_exit ?_
    refine KX.go (hK_5' [(3, w_8'), (4, w_7')] _ ?_) ⟨rfl, rfl, trivial⟩
    refine wc_seq (fun K0_23' hK_23' => ?_)
    refine wc_region ?_
    refine WL.val (OV.move rfl) rfl rfl rfl ?_
    obtain ⟨o_11', h⟩ := h
    refine WL.pick (H' := [HA.row w_8' 34 3 l_3'.length (l_3'.flatMap tokC), HA.row w_7' 40 3 l_2'.length (l_2'.flatMap tokC)]) [1, 0] rfl rfl ?_
    refine WL.call tf_ent_15 rfl (show_does w_8' l_3' o_11') rfl trivial rfl rfl ?_
    refine WL.val (OV.move rfl) rfl rfl rfl ?_
    obtain ⟨o_12', h⟩ := h
    refine WL.pick (H' := [HA.row w_7' 40 3 l_2'.length (l_2'.flatMap tokC), HA.row w_8' 34 3 l_3'.length (l_3'.flatMap tokC)]) [1, 0] rfl rfl ?_
    refine WL.call tf_ent_16 rfl (refshow_does w_7' l_2' o_12') rfl trivial rfl rfl ?_
    refine WL.val (OV.eqlS rfl rfl) rfl rfl rfl ?_
    refine WL.val (OV.move rfl) rfl rfl rfl ?_
    obtain ⟨o_14', h⟩ := h
    refine WL.cut 4 [(48, Value.bool ((decide (showL l_3' = showL l_2')) && (decide (l_3' = l_2'))))] ?_ (fun K0_24' hK_24' => ?_)
    rotate_left
    · refine WL.split (decide (showL l_3' = showL l_2')) (fun hb => ?_) (fun hb => ?_)
      · have o_13' := o_14' hb
        refine WL.set 44 rfl (congrArg Value.bool hb) ?_
        refine WL.val (OV.move rfl) rfl rfl rfl ?_
        refine WL.val (OV.move rfl) rfl rfl rfl ?_
        refine WL.pick (H' := [HA.row w_8' 34 3 l_3'.length (l_3'.flatMap tokC), HA.row w_7' 40 3 l_2'.length (l_2'.flatMap tokC)]) [1, 0] rfl rfl ?_
        refine WL.call tf_ent_12 rfl (same_does w_8' w_7' l_3' l_2' o_13') rfl trivial rfl rfl ?_
        refine WL.val (OV.pickT rfl rfl) rfl rfl rfl ?_
        refine WL.set 48 rfl (bT (v := decide (l_3' = l_2')) hb) ?_
        exact WL.end_ (KX.goH hK_24' ⟨rfl, trivial⟩ [1, 0] rfl rfl)
      · refine WL.set 44 rfl (congrArg Value.bool hb) ?_
        refine WL.skip rfl rfl rfl ?_
        refine WL.skip rfl rfl rfl ?_
        refine WL.skip rfl rfl rfl ?_
        refine WL.val (OV.pickF rfl rfl) rfl rfl rfl ?_
        refine WL.set 48 rfl (bF (v := decide (l_3' = l_2')) hb) ?_
        exact WL.end_ (KX.go hK_24' ⟨rfl, trivial⟩)
    refine WL.val (OV.assign rfl) rfl rfl rfl ?_
    refine WL.nil ?_
    refine KX.go (hK_23' [(2, Value.bool ((decide (showL l_3' = showL l_2')) && (decide (l_3' = l_2'))))] _ ?_) ⟨rfl, trivial⟩
    refine wc_ret ?_
    exact hE.ret [] rfl rfl (.inl ⟨_, h, rfl⟩) (ResV.of1 rfl (RV.tmp rfl))

theorem take_next {α : Type} [Inhabited α] {l : List α} {i : Int} (h : 0 ≤ i ∧ i < l.length) : l.take (i + 1).toNat = l.take i.toNat ++ [l.getD i.toNat default] := by
  have hlt : i.toNat < l.length := by omega
  rw [show (i + 1).toNat = i.toNat + 1 by omega, List.take_add_one, List.getElem?_eq_getElem hlt, List.getD_eq_getElem?_getD, List.getElem?_eq_getElem hlt]
  rfl
theorem tokenShows_does (w : Value) (l : List Tok) (R : List (Nat × Obj)) (hR : InSl w R l.length (l.flatMap tokC)) (h : ShowBd l) : Does Try.prog 7 [w] (R ++ []) [] (Ret (.bool true) []) := by
  refine (lshows_wp w l R hR (fun r => r = true) ?_).weak (by rintro o (⟨v, rfl, rfl⟩ | h) <;> first | rfl | exact h.elim)
  unfold lshows_vc
  have hn := h.1
  refine ⟨fun i a b => 0 ≤ i ∧ i ≤ l.length ∧ a = l.take i.toNat ∧ b = l.take i.toNat, fun i _ _ => (l.length - i).toNat, ⟨by omega, by omega, rfl, rfl⟩, fun i a b ⟨h0, h1, ha, hb⟩ => ?_⟩
  subst ha
  subst hb
  by_cases hi : i < (l.length : Int)
  · rw [if_pos (by simpa using hi)]
    have hl : (l.take i.toNat).length ≤ 8388608 := by rw [List.length_take]; omega
    have e : l.take i.toNat ++ [((l.getD i.toNat default).1, (l.getD i.toNat default).2.1, (l.getD i.toNat default).2.2)] = l.take (i + 1).toNat := (take_next ⟨h0, hi⟩).symm
    rw [e]
    exact ⟨⟨h0, hi⟩, ⟨by omega, by omega⟩, ⟨by omega, by omega⟩, ⟨by omega, by omega⟩, ⟨by omega, by omega, rfl, rfl⟩, by show (l.length - (i + 1)).toNat < (l.length - i).toNat; omega⟩
  · rw [if_neg (by simpa using hi), List.take_of_length_le (by omega)]
    exact ⟨h, h, fun _ => by omega, by simp⟩

end Go.Proofs.Ytiaafdjdppganaa
