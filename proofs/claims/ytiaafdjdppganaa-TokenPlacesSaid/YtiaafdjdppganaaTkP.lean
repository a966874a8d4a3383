/-
  TokenPlaces.
-/
import Derived.Test.YtiaafdjdppganaaTkJm
namespace Go.Proofs.Ytiaafdjdppganaa
open Go Go.RowKit

theorem tf_field_29_0 : fieldOff Try.prog 29 0 = some 0 := by kernel_rfl
theorem tf_zero_34 : zeroB Try.prog 34 = some [Value.int .i64 0, Value.int .i64 0, st []] := by kernel_rfl
theorem tf_ent_13 : entB Try.prog 13 = true := by kernel_rfl

def blank_vc (s : List UInt8) (K : Bool → Prop) : Prop :=
  ∃ (Inv : Bool → Int → Prop) (mu : Bool → Int → Nat),
    Inv false 0 ∧ ∀ (comment_5' : Bool) (i_1' : Int), Inv comment_5' i_1' →
      (if (decide (i_1' < (s.length : Int))) = true then
        (0 ≤ i_1' ∧ i_1' < s.length) ∧
        ∃ (J0_4' : Bool → Prop),
          (∀ (comment_6' : Bool), J0_4' comment_6' →
            ∃ (J0_5' : Bool → Prop),
              (∀ (comment_7' : Bool), J0_5' comment_7' →
                (if (((((!comment_7') && (!decide (((s.getD i_1'.toNat 0).toNat : Int) = 32))) && (!decide (((s.getD i_1'.toNat 0).toNat : Int) = 9))) && (!decide (((s.getD i_1'.toNat 0).toNat : Int) = 10))) && (!decide (((s.getD i_1'.toNat 0).toNat : Int) = 13))) = true then
                  K false
                else
                  (I64 (i_1' + 1)) ∧
                  Inv comment_7' (i_1' + 1) ∧ mu comment_7' (i_1' + 1) < mu comment_5' i_1')) ∧
              (if (decide (((s.getD i_1'.toNat 0).toNat : Int) = 10)) = true then
                J0_5' false
              else
                J0_5' comment_6')) ∧
          (if (decide (((s.getD i_1'.toNat 0).toNat : Int) = 35)) = true then
            J0_4' true
          else
            J0_4' comment_5')
      else
        K true)
set_option maxRecDepth 100000 in
theorem blank_wp  (s : List UInt8) (K : Bool → Prop) (h : blank_vc s K) :
    Does Try.prog 13 [st s] [] [] (fun o => (∃ (v : Bool), K v ∧ o = .ret (Value.bool v) []) ∨ (False)) := by
  unfold blank_vc at h
  refine does_of_wc (n := 37) (L0 := [(0, st s)]) Try.func13 rfl rfl rfl rfl (fun w0 M Q hE => ?_)
  refine wc_seq (fun K0 hK => ?_)
  refine wc_region ?_
  refine WL.val (OV.assign rfl) rfl rfl rfl ?_
  refine WL.nil ?_
  refine KX.go (hK [(0, st s)] _ ?_) ⟨rfl, trivial⟩
  refine wc_seq (fun K0_1' hK_1' => ?_)
  refine wc_region ?_
  refine WL.val (OV.assign rfl) rfl rfl rfl ?_
  refine WL.nil ?_
  refine KX.go (hK_1' [(0, st s), (3, Value.bool false)] _ ?_) ⟨rfl, rfl, trivial⟩
  refine wc_seq (fun K0_2' hK_2' => ?_)
  refine wc_seq (fun K0_3' hK_3' => ?_)
  refine wc_region ?_
  refine WL.val (OV.assign rfl) rfl rfl rfl ?_
  refine WL.nil ?_
  refine KX.go (hK_3' [(0, st s), (3, Value.bool false), (4, Value.int .i64 0)] _ ?_) ⟨rfl, rfl, rfl, trivial⟩
  refine wc_block ?_
  obtain ⟨Inv, mu, h0, hr⟩ := h
  refine wc_loop (S := Bool × Int) (fun σ => Inv σ.1 σ.2) (fun σ => mu σ.1 σ.2) (fun σ => [(0, st s), (3, Value.bool σ.1), (4, Value.int .i64 σ.2)]) (fun σ => []) (false, 0) h0 ⟨rfl, rfl, rfl, trivial⟩ rfl ?_
  rintro ⟨comment_5', i_1'⟩ hi K0_36' hK_36'
  have h := hr comment_5' i_1' hi
  show WC _ _ _ _ [(0, st s), (3, Value.bool comment_5'), (4, Value.int .i64 i_1')] []
  refine wc_seq (fun K0_37' hK_37' => ?_)
  refine wc_seq (fun K0_38' hK_38' => ?_)
  refine wc_region ?_
  refine WL.val (OV.move rfl) rfl rfl rfl ?_
  refine WL.val (OV.move rfl) rfl rfl rfl ?_
  refine WL.val (OV.len rfl tf_str_9) rfl rfl rfl ?_
  refine WL.val (OV.lss rfl rfl) rfl rfl rfl ?_
  refine WL.nil ?_
  refine KX.go (hK_38' [(0, st s), (3, Value.bool comment_5'), (4, Value.int .i64 i_1'), (9, Value.bool (decide (i_1' < (s.length : Int))))] _ ?_) ⟨rfl, rfl, rfl, rfl, trivial⟩
  refine wc_cond (b := decide (i_1' < (s.length : Int))) rfl (fun hb => ?_) (fun hb => ?_)
  · replace h := if_T h hb
    refine wc_skip ?_
    refine KX.go (hK_37' [(0, st s), (3, Value.bool comment_5'), (4, Value.int .i64 i_1')] _ ?_) ⟨rfl, rfl, rfl, trivial⟩
    refine wc_seq (fun K0_39' hK_39' => ?_)
    refine wc_block ?_
    refine wc_seq (fun K0_40' hK_40' => ?_)
    refine wc_region ?_
    refine WL.val (OV.move rfl) rfl rfl rfl ?_
    refine WL.val (OV.move rfl) rfl rfl rfl ?_
    obtain ⟨o_11', h⟩ := h
    refine WL.val (OV.index rfl rfl tf_str_9 o_11') rfl rfl rfl ?_
    refine WL.val (OV.assign rfl) rfl rfl rfl ?_
    refine WL.nil ?_
    refine KX.go (hK_40' [(0, st s), (3, Value.bool comment_5'), (4, Value.int .i64 i_1'), (5, Value.int .u8 ((s.getD i_1'.toNat 0).toNat : Int))] _ ?_) ⟨rfl, rfl, rfl, rfl, trivial⟩
    obtain ⟨J0_4', hJ_4', h⟩ := h
    refine wc_seqJ (X := Bool) (fun σ => J0_4' σ) (fun σ => [(0, st s), (3, Value.bool σ), (4, Value.int .i64 i_1'), (5, Value.int .u8 ((s.getD i_1'.toNat 0).toNat : Int))]) (fun σ => []) ?_ (fun K0_42' hK_42' => ?_)
    · rintro comment_6' hj
      replace h := hJ_4' comment_6' hj
      show WC _ _ _ _ [(0, st s), (3, Value.bool comment_6'), (4, Value.int .i64 i_1'), (5, Value.int .u8 ((s.getD i_1'.toNat 0).toNat : Int))] []
      obtain ⟨J0_5', hJ_5', h⟩ := h
      refine wc_seqJ (X := Bool) (fun σ => J0_5' σ) (fun σ => [(0, st s), (3, Value.bool σ), (4, Value.int .i64 i_1'), (5, Value.int .u8 ((s.getD i_1'.toNat 0).toNat : Int))]) (fun σ => []) ?_ (fun K0_44' hK_44' => ?_)
      · rintro comment_7' hj
        replace h := hJ_5' comment_7' hj
        show WC _ _ _ _ [(0, st s), (3, Value.bool comment_7'), (4, Value.int .i64 i_1'), (5, Value.int .u8 ((s.getD i_1'.toNat 0).toNat : Int))] []
        refine wc_seq (fun K0_45' hK_45' => ?_)
        refine wc_region ?_
        refine WL.val (OV.move rfl) rfl rfl rfl ?_
        refine WL.val (OV.not rfl) rfl rfl rfl ?_
        refine WL.val (OV.move rfl) rfl rfl rfl ?_
        refine WL.cut 3 [(0, st s), (3, Value.bool comment_7'), (4, Value.int .i64 i_1'), (5, Value.int .u8 ((s.getD i_1'.toNat 0).toNat : Int)), (24, Value.bool ((!comment_7') && (!decide (((s.getD i_1'.toNat 0).toNat : Int) = 32))))] ?_ (fun K0_46' hK_46' => ?_)
        rotate_left
        · refine WL.split (!comment_7') (fun hb => ?_) (fun hb => ?_)
          · refine WL.set 21 rfl (congrArg Value.bool hb) ?_
            refine WL.val (OV.move rfl) rfl rfl rfl ?_
            refine WL.val (OV.neq rfl rfl) rfl rfl rfl ?_
            refine WL.val (OV.pickT rfl rfl) rfl rfl rfl ?_
            refine WL.set 24 rfl (bT (v := !decide (((s.getD i_1'.toNat 0).toNat : Int) = 32)) hb) ?_
            exact WL.end_ (KX.go hK_46' ⟨rfl, rfl, rfl, rfl, rfl, trivial⟩)
          · refine WL.set 21 rfl (congrArg Value.bool hb) ?_
            refine WL.skip rfl rfl rfl ?_
            refine WL.skip rfl rfl rfl ?_
            refine WL.val (OV.pickF rfl rfl) rfl rfl rfl ?_
            refine WL.set 24 rfl (bF (v := !decide (((s.getD i_1'.toNat 0).toNat : Int) = 32)) hb) ?_
            exact WL.end_ (KX.go hK_46' ⟨rfl, rfl, rfl, rfl, rfl, trivial⟩)
        refine WL.val (OV.move rfl) rfl rfl rfl ?_
        refine WL.cut 3 [(0, st s), (3, Value.bool comment_7'), (4, Value.int .i64 i_1'), (5, Value.int .u8 ((s.getD i_1'.toNat 0).toNat : Int)), (28, Value.bool (((!comment_7') && (!decide (((s.getD i_1'.toNat 0).toNat : Int) = 32))) && (!decide (((s.getD i_1'.toNat 0).toNat : Int) = 9))))] ?_ (fun K0_47' hK_47' => ?_)
        rotate_left
        · refine WL.split ((!comment_7') && (!decide (((s.getD i_1'.toNat 0).toNat : Int) = 32))) (fun hb => ?_) (fun hb => ?_)
          · refine WL.set 25 rfl (congrArg Value.bool hb) ?_
            refine WL.val (OV.move rfl) rfl rfl rfl ?_
            refine WL.val (OV.neq rfl rfl) rfl rfl rfl ?_
            refine WL.val (OV.pickT rfl rfl) rfl rfl rfl ?_
            refine WL.set 28 rfl (bT (v := !decide (((s.getD i_1'.toNat 0).toNat : Int) = 9)) hb) ?_
            exact WL.end_ (KX.go hK_47' ⟨rfl, rfl, rfl, rfl, rfl, trivial⟩)
          · refine WL.set 25 rfl (congrArg Value.bool hb) ?_
            refine WL.skip rfl rfl rfl ?_
            refine WL.skip rfl rfl rfl ?_
            refine WL.val (OV.pickF rfl rfl) rfl rfl rfl ?_
            refine WL.set 28 rfl (bF (v := !decide (((s.getD i_1'.toNat 0).toNat : Int) = 9)) hb) ?_
            exact WL.end_ (KX.go hK_47' ⟨rfl, rfl, rfl, rfl, rfl, trivial⟩)
        refine WL.val (OV.move rfl) rfl rfl rfl ?_
        refine WL.cut 3 [(0, st s), (3, Value.bool comment_7'), (4, Value.int .i64 i_1'), (5, Value.int .u8 ((s.getD i_1'.toNat 0).toNat : Int)), (32, Value.bool ((((!comment_7') && (!decide (((s.getD i_1'.toNat 0).toNat : Int) = 32))) && (!decide (((s.getD i_1'.toNat 0).toNat : Int) = 9))) && (!decide (((s.getD i_1'.toNat 0).toNat : Int) = 10))))] ?_ (fun K0_48' hK_48' => ?_)
        rotate_left
        · refine WL.split (((!comment_7') && (!decide (((s.getD i_1'.toNat 0).toNat : Int) = 32))) && (!decide (((s.getD i_1'.toNat 0).toNat : Int) = 9))) (fun hb => ?_) (fun hb => ?_)
          · refine WL.set 29 rfl (congrArg Value.bool hb) ?_
            refine WL.val (OV.move rfl) rfl rfl rfl ?_
            refine WL.val (OV.neq rfl rfl) rfl rfl rfl ?_
            refine WL.val (OV.pickT rfl rfl) rfl rfl rfl ?_
            refine WL.set 32 rfl (bT (v := !decide (((s.getD i_1'.toNat 0).toNat : Int) = 10)) hb) ?_
            exact WL.end_ (KX.go hK_48' ⟨rfl, rfl, rfl, rfl, rfl, trivial⟩)
          · refine WL.set 29 rfl (congrArg Value.bool hb) ?_
            refine WL.skip rfl rfl rfl ?_
            refine WL.skip rfl rfl rfl ?_
            refine WL.val (OV.pickF rfl rfl) rfl rfl rfl ?_
            refine WL.set 32 rfl (bF (v := !decide (((s.getD i_1'.toNat 0).toNat : Int) = 10)) hb) ?_
            exact WL.end_ (KX.go hK_48' ⟨rfl, rfl, rfl, rfl, rfl, trivial⟩)
        refine WL.val (OV.move rfl) rfl rfl rfl ?_
        refine WL.cut 3 [(0, st s), (3, Value.bool comment_7'), (4, Value.int .i64 i_1'), (36, Value.bool (((((!comment_7') && (!decide (((s.getD i_1'.toNat 0).toNat : Int) = 32))) && (!decide (((s.getD i_1'.toNat 0).toNat : Int) = 9))) && (!decide (((s.getD i_1'.toNat 0).toNat : Int) = 10))) && (!decide (((s.getD i_1'.toNat 0).toNat : Int) = 13))))] ?_ (fun K0_49' hK_49' => ?_)
        rotate_left
        · refine WL.split ((((!comment_7') && (!decide (((s.getD i_1'.toNat 0).toNat : Int) = 32))) && (!decide (((s.getD i_1'.toNat 0).toNat : Int) = 9))) && (!decide (((s.getD i_1'.toNat 0).toNat : Int) = 10))) (fun hb => ?_) (fun hb => ?_)
          · refine WL.set 33 rfl (congrArg Value.bool hb) ?_
            refine WL.val (OV.move rfl) rfl rfl rfl ?_
            refine WL.val (OV.neq rfl rfl) rfl rfl rfl ?_
            refine WL.val (OV.pickT rfl rfl) rfl rfl rfl ?_
            refine WL.set 36 rfl (bT (v := !decide (((s.getD i_1'.toNat 0).toNat : Int) = 13)) hb) ?_
            exact WL.end_ (KX.go hK_49' ⟨rfl, rfl, rfl, rfl, trivial⟩)
          · refine WL.set 33 rfl (congrArg Value.bool hb) ?_
            refine WL.skip rfl rfl rfl ?_
            refine WL.skip rfl rfl rfl ?_
            refine WL.val (OV.pickF rfl rfl) rfl rfl rfl ?_
            refine WL.set 36 rfl (bF (v := !decide (((s.getD i_1'.toNat 0).toNat : Int) = 13)) hb) ?_
            exact WL.end_ (KX.go hK_49' ⟨rfl, rfl, rfl, rfl, trivial⟩)
        refine WL.nil ?_
        refine KX.go (hK_45' [(0, st s), (3, Value.bool comment_7'), (4, Value.int .i64 i_1'), (36, Value.bool (((((!comment_7') && (!decide (((s.getD i_1'.toNat 0).toNat : Int) = 32))) && (!decide (((s.getD i_1'.toNat 0).toNat : Int) = 9))) && (!decide (((s.getD i_1'.toNat 0).toNat : Int) = 10))) && (!decide (((s.getD i_1'.toNat 0).toNat : Int) = 13))))] _ ?_) ⟨rfl, rfl, rfl, rfl, trivial⟩
        refine wc_cond (b := ((((!comment_7') && (!decide (((s.getD i_1'.toNat 0).toNat : Int) = 32))) && (!decide (((s.getD i_1'.toNat 0).toNat : Int) = 9))) && (!decide (((s.getD i_1'.toNat 0).toNat : Int) = 10))) && (!decide (((s.getD i_1'.toNat 0).toNat : Int) = 13))) rfl (fun hb => ?_) (fun hb => ?_)
        · replace h := if_T h hb
          refine wc_seq (fun K0_50' hK_50' => ?_)
          refine wc_region ?_
          refine WL.val (OV.assign rfl) rfl rfl rfl ?_
          refine WL.nil ?_
          refine KX.go (hK_50' [(2, Value.bool false)] _ ?_) ⟨rfl, trivial⟩
          refine wc_ret ?_
          exact hE.ret [] rfl rfl (.inl ⟨_, h, rfl⟩) (ResV.of1 rfl (RV.tmp rfl))
        · replace h := if_F h hb
          refine wc_skip ?_
          refine KX.go (hK_39' [(0, st s), (3, Value.bool comment_7'), (4, Value.int .i64 i_1')] _ ?_) ⟨rfl, rfl, rfl, trivial⟩
          refine wc_region ?_
          refine WL.val (OV.move rfl) rfl rfl rfl ?_
          obtain ⟨o_16', h⟩ := h
          refine WL.val (OV.add rfl rfl o_16') rfl rfl rfl ?_
          refine WL.val (OV.assign rfl) rfl rfl rfl ?_
          refine WL.nil ?_
          exact KX.goH (hK_36' (comment_7', i_1' + 1) h.1 h.2) ⟨rfl, rfl, rfl, trivial⟩ [] rfl rfl
      · skip
        refine wc_seq (fun K0_51' hK_51' => ?_)
        refine wc_region ?_
        refine WL.val (OV.move rfl) rfl rfl rfl ?_
        refine WL.val (OV.eql rfl rfl) rfl rfl rfl ?_
        refine WL.nil ?_
        refine KX.go (hK_51' [(0, st s), (3, Value.bool comment_6'), (4, Value.int .i64 i_1'), (5, Value.int .u8 ((s.getD i_1'.toNat 0).toNat : Int)), (18, Value.bool (decide (((s.getD i_1'.toNat 0).toNat : Int) = 10)))] _ ?_) ⟨rfl, rfl, rfl, rfl, rfl, trivial⟩
        refine wc_cond (b := decide (((s.getD i_1'.toNat 0).toNat : Int) = 10)) rfl (fun hb => ?_) (fun hb => ?_)
        · replace h := if_T h hb
          refine wc_region ?_
          refine WL.val (OV.assign rfl) rfl rfl rfl ?_
          refine WL.nil ?_
          exact KX.goH (hK_44' false h) ⟨rfl, rfl, rfl, rfl, trivial⟩ [] rfl rfl
        · replace h := if_F h hb
          refine wc_skip ?_
          exact KX.goH (hK_44' comment_6' h) ⟨rfl, rfl, rfl, rfl, trivial⟩ [] rfl rfl
    · skip
      refine wc_seq (fun K0_52' hK_52' => ?_)
      refine wc_region ?_
      refine WL.val (OV.move rfl) rfl rfl rfl ?_
      refine WL.val (OV.eql rfl rfl) rfl rfl rfl ?_
      refine WL.nil ?_
      refine KX.go (hK_52' [(0, st s), (3, Value.bool comment_5'), (4, Value.int .i64 i_1'), (5, Value.int .u8 ((s.getD i_1'.toNat 0).toNat : Int)), (16, Value.bool (decide (((s.getD i_1'.toNat 0).toNat : Int) = 35)))] _ ?_) ⟨rfl, rfl, rfl, rfl, rfl, trivial⟩
      refine wc_cond (b := decide (((s.getD i_1'.toNat 0).toNat : Int) = 35)) rfl (fun hb => ?_) (fun hb => ?_)
      · replace h := if_T h hb
        refine wc_region ?_
        refine WL.val (OV.assign rfl) rfl rfl rfl ?_
        refine WL.nil ?_
        exact KX.goH (hK_42' true h) ⟨rfl, rfl, rfl, rfl, trivial⟩ [] rfl rfl
      · replace h := if_F h hb
        refine wc_skip ?_
        exact KX.goH (hK_42' comment_5' h) ⟨rfl, rfl, rfl, rfl, trivial⟩ [] rfl rfl
  · replace h := if_F h hb
    refine wc_exit ?_
    refine KX.go (hK_2' [] _ ?_) trivial
    refine wc_seq (fun K0_53' hK_53' => ?_)
    refine wc_region ?_
    refine WL.val (OV.assign rfl) rfl rfl rfl ?_
    refine WL.nil ?_
    refine KX.go (hK_53' [(2, Value.bool true)] _ ?_) ⟨rfl, trivial⟩
    refine wc_ret ?_
    exact hE.ret [] rfl rfl (.inl ⟨_, h, rfl⟩) (ResV.of1 rfl (RV.tmp rfl))

def blankB (t : List UInt8) : Bool := decide (gapL false t = t.length)
theorem blank_does (t : List UInt8) (h : t.length ≤ 9223372036854775807) : Does Try.prog 13 [st t] [] [] (Ret (.bool (blankB t)) []) := by
  refine (blank_wp t (fun r => r = blankB t) ?_).weak (by rintro o (⟨v, rfl, rfl⟩ | h) <;> first | rfl | exact h.elim)
  unfold blank_vc
  refine ⟨fun cm p => 0 ≤ p ∧ p ≤ t.length ∧ p + gapL cm (t.drop p.toNat) = gapL false t, fun _ p => (t.length - p).toNat, ⟨by omega, by omega, by simp⟩, ?_⟩
  rintro cm p ⟨h0, h1, hg⟩
  by_cases hp : p < t.length
  · rw [if_pos (by simpa using hp)]
    have hb : 0 ≤ p ∧ p < t.length := ⟨h0, hp⟩
    have hs := gapL_at cm hb
    refine ⟨hb, fun c1 => c1 = (cm || decide (bt t p = 35)), fun c1 hc1 => ⟨fun c2 => c2 = (c1 && !decide (bt t p = 10)), fun c2 hc2 => ?_, ?_⟩, ?_⟩
    · show (if (!c2 && !decide (bt t p = 32) && !decide (bt t p = 9) && !decide (bt t p = 10) && !decide (bt t p = 13)) = true then _ else _)
      rw [← hc1, ← hc2] at hs
      by_cases hstop : (!c2 && !decide (bt t p = 32) && !decide (bt t p = 9) && !decide (bt t p = 10) && !decide (bt t p = 13)) = true
      · rw [if_pos hstop]
        rw [if_neg (by
          clear hs hc1 hc2
          revert hstop
          generalize decide (bt t p = 32) = x1
          generalize decide (bt t p = 9) = x2
          generalize decide (bt t p = 10) = x3
          generalize decide (bt t p = 13) = x4
          revert c2 x1 x2 x3 x4; decide)] at hs
        symm
        unfold blankB
        rw [decide_eq_false_iff_not]
        omega
      · rw [if_neg hstop]
        rw [if_pos (by
          clear hs hc1 hc2
          revert hstop
          generalize decide (bt t p = 32) = x1
          generalize decide (bt t p = 9) = x2
          generalize decide (bt t p = 10) = x3
          generalize decide (bt t p = 13) = x4
          revert c2 x1 x2 x3 x4; decide)] at hs
        exact ⟨⟨by omega, by omega⟩, ⟨by omega, by omega, by rw [← hg, hs]; omega⟩, by show (t.length - (p + 1)).toNat < (t.length - p).toNat; omega⟩
    · show (if decide (bt t p = 10) = true then false = _ else c1 = _)
      by_cases c10 : bt t p = 10 <;> simp [c10]
    · show (if decide (bt t p = 35) = true then true = _ else cm = _)
      by_cases c35 : bt t p = 35 <;> simp [c35]
  · rw [if_neg (by simpa using hp)]
    rw [gap_end _ (by omega)] at hg
    symm
    unfold blankB
    rw [decide_eq_true_eq]
    omega
theorem gapL_take : ∀ (cm : Bool) (x : List UInt8), gapL cm (x.take (gapL cm x)) = gapL cm x
  | _, [] => rfl
  | cm, c :: x => by
    have ih := gapL_take ((cm || c == 35) && c != 10) x
    by_cases h : (((cm || c == 35) && c != 10) || c == 32 || c == 9 || c == 10 || c == 13) = true
    · have e : gapL cm (c :: x) = 1 + gapL ((cm || c == 35) && c != 10) x := by rw [gapL, if_pos h]
      rw [e, Nat.add_comm, List.take_succ_cons, gapL, if_pos h, ih, Nat.add_comm]
    · have e : gapL cm (c :: x) = 0 := by rw [gapL, if_neg h]
      rw [e, List.take_zero]; cases cm <;> rfl
theorem blank_gap {t : List UInt8} {a : Int} (h : 0 ≤ a ∧ a ≤ t.length) : blankB ((t.drop a.toNat).take ((gapM t a).toNat - a.toNat)) = true := by
  have hb := gapM_bd h
  have e : (gapM t a).toNat - a.toNat = gapL false (t.drop a.toNat) := by unfold gapM; omega
  have hl := gapL_le false (t.drop a.toNat)
  unfold blankB
  rw [e, decide_eq_true_eq, gapL_take, List.length_take]; omega
/-- The tokens from a place on. -/
def Chain (t : List UInt8) : Int → List Tok → Prop
  | _, [] => False
  | a, k :: r => if gapM t a < t.length then ∃ q, oneM t (gapM t a) = .ok (k, q) ∧ Chain t q r else k = (0, (t.length : Int), []) ∧ r = []
theorem chain_of {t : List UInt8} : ∀ {n : Nat} {l l' : List Tok} {a : Int}, 0 ≤ a → a ≤ t.length → scanF t n l (gapM t a) = .ok l' → ∃ ks, l' = l ++ ks ∧ Chain t a ks
  | 0, _, _, _, _, _, h => by cases h
  | n + 1, l, l', a, h0, h1, h => by
    have hg := gapM_bd (t := t) (a := a) ⟨h0, h1⟩
    rw [scanF] at h
    by_cases ha : gapM t a < t.length
    · rw [if_pos ha] at h
      cases ho : oneM t (gapM t a) with
      | error e => rw [ho] at h; cases h
      | ok r =>
        rw [ho] at h
        have hq := oneM_ok ⟨by omega, ha⟩ (k := r.1) (q := r.2) ho
        obtain ⟨ks, e1, e2⟩ := chain_of (by omega) hq.2 h
        refine ⟨r.1 :: ks, by rw [e1]; simp, ?_⟩
        rw [Chain, if_pos ha]
        exact ⟨r.2, ho, e2⟩
    · rw [if_neg ha] at h
      simp only [Except.ok.injEq] at h
      refine ⟨[(0, (t.length : Int), [])], h.symm, ?_⟩
      rw [Chain, if_neg ha]
      exact ⟨rfl, rfl⟩
theorem bt_drop {t : List UInt8} {a k : Int} (h : 0 ≤ a) (hk : 0 ≤ k) : (((t.drop a.toNat).getD k.toNat 0).toNat : Int) = bt t (a + k) := by
  unfold bt
  rw [List.getD_eq_getElem?_getD, List.getD_eq_getElem?_getD, List.getElem?_drop, show a.toNat + k.toNat = (a + k).toNat by omega]
theorem cut_len {t : List UInt8} {i j : Int} (h : 0 ≤ i ∧ i ≤ j ∧ j ≤ t.length) : ((cut t i j).length : Int) = j - i := by
  unfold cut
  rw [List.length_take, List.length_drop]; omega

def lplaces_vc (text : List UInt8) (K : Bool → Prop) : Prop :=
  (
    (if (!andAll [decide ((scanR text).2.1 = 0), decide ((scanR text).2.2 = 0), decide (([] : List UInt8) = [])]) = true then
      K ((decide ((((scanR text).1).length : Int) = 0)) && (!decide ((scanR text).2.1 = 0)))
    else
      ((decide ((((scanR text).1).length : Int) = 0)) = false → (I64 ((((scanR text).1).length : Int) - 1)) ∧ (0 ≤ ((((scanR text).1).length : Int) - 1) ∧ ((((scanR text).1).length : Int) - 1) < (((scanR text).1).length : Int))) ∧
      (if ((decide ((((scanR text).1).length : Int) = 0)) || (!andAll [decide ((((scanR text).1).getD (((((scanR text).1).length : Int) - 1)).toNat default).1 = 0), decide ((((scanR text).1).getD (((((scanR text).1).length : Int) - 1)).toNat default).2.1 = (text.length : Int)), decide ((((scanR text).1).getD (((((scanR text).1).length : Int) - 1)).toNat default).2.2 = [])])) = true then
        K false
      else
        ∃ (Inv_4' : Int → Int → Prop) (mu_4' : Int → Int → Nat),
          Inv_4' 0 0 ∧ ∀ (at0_3' : Int) (i_1' : Int), Inv_4' at0_3' i_1' →
            (if (decide (i_1' < (((scanR text).1).length : Int))) = true then
              ∃ (J0_22' : Int → Prop),
                (∀ (at0_4' : Int), J0_22' at0_4' →
                  (I64 (i_1' + 1)) ∧
                  Inv_4' at0_4' (i_1' + 1) ∧ mu_4' at0_4' (i_1' + 1) < mu_4' at0_3' i_1') ∧
                (0 ≤ i_1' ∧ i_1' < (((scanR text).1).length : Int)) ∧
                (((decide ((((scanR text).1).getD (i_1').toNat default).2.1 < at0_3')) || (decide ((text.length : Int) < (((scanR text).1).getD (i_1').toNat default).2.1))) = false → (0 ≤ at0_3' ∧ at0_3' ≤ ((((scanR text).1).getD (i_1').toNat default).2.1) ∧ ((((scanR text).1).getD (i_1').toNat default).2.1) ≤ text.length) ∧ (((text.drop at0_3'.toNat).take (((((scanR text).1).getD (i_1').toNat default).2.1).toNat - at0_3'.toNat)).length ≤ 9223372036854775807)) ∧
                (if (((decide ((((scanR text).1).getD (i_1').toNat default).2.1 < at0_3')) || (decide ((text.length : Int) < (((scanR text).1).getD (i_1').toNat default).2.1))) || (!(blankB ((text.drop at0_3'.toNat).take (((((scanR text).1).getD (i_1').toNat default).2.1).toNat - at0_3'.toNat))))) = true then
                  K false
                else
                  (0 ≤ ((((scanR text).1).getD (i_1').toNat default).2.1) ∧ ((((scanR text).1).getD (i_1').toNat default).2.1) ≤ text.length) ∧
                  ∃ (J0_23' : Bool → Prop),
                    (∀ (t85_5' : Bool), J0_23' t85_5' →
                      (if t85_5' = true then
                        (((decide ((((scanR text).1).getD (i_1').toNat default).2.2 = [])) || (decide (((text.drop ((((scanR text).1).getD (i_1').toNat default).2.1).toNat).length : Int) < (((((scanR text).1).getD (i_1').toNat default).2.2).length : Int)))) = false → (0 ≤ (((((scanR text).1).getD (i_1').toNat default).2.2).length : Int) ∧ (((((scanR text).1).getD (i_1').toNat default).2.2).length : Int) ≤ (text.drop ((((scanR text).1).getD (i_1').toNat default).2.1).toNat).length)) ∧
                        (if (((decide ((((scanR text).1).getD (i_1').toNat default).2.2 = [])) || (decide (((text.drop ((((scanR text).1).getD (i_1').toNat default).2.1).toNat).length : Int) < (((((scanR text).1).getD (i_1').toNat default).2.2).length : Int)))) || (!decide ((text.drop ((((scanR text).1).getD (i_1').toNat default).2.1).toNat).take (((((scanR text).1).getD (i_1').toNat default).2.2).length : Int).toNat = (((scanR text).1).getD (i_1').toNat default).2.2))) = true then
                          K false
                        else
                          (I64 (((((scanR text).1).getD (i_1').toNat default).2.1) + (((((scanR text).1).getD (i_1').toNat default).2.2).length : Int))) ∧
                          J0_22' (((((scanR text).1).getD (i_1').toNat default).2.1) + (((((scanR text).1).getD (i_1').toNat default).2.2).length : Int)))
                      else
                        (if (decide ((((scanR text).1).getD (i_1').toNat default).1 = 3)) = true then
                          (I64 ((((((scanR text).1).getD (i_1').toNat default).2.2).length : Int) + 2)) ∧
                          ((decide (((text.drop ((((scanR text).1).getD (i_1').toNat default).2.1).toNat).length : Int) < (((((scanR text).1).getD (i_1').toNat default).2.2).length : Int) + 2)) = false → (0 ≤ (0 : Int) ∧ (0 : Int) < (text.drop ((((scanR text).1).getD (i_1').toNat default).2.1).toNat).length)) ∧
                          (((decide (((text.drop ((((scanR text).1).getD (i_1').toNat default).2.1).toNat).length : Int) < (((((scanR text).1).getD (i_1').toNat default).2.2).length : Int) + 2)) || (!decide ((((text.drop ((((scanR text).1).getD (i_1').toNat default).2.1).toNat).getD (0 : Int).toNat 0).toNat : Int) = 47))) = false → (I64 ((((((scanR text).1).getD (i_1').toNat default).2.2).length : Int) + 1)) ∧ (0 ≤ (1 : Int) ∧ (1 : Int) ≤ ((((((scanR text).1).getD (i_1').toNat default).2.2).length : Int) + 1) ∧ ((((((scanR text).1).getD (i_1').toNat default).2.2).length : Int) + 1) ≤ (text.drop ((((scanR text).1).getD (i_1').toNat default).2.1).toNat).length)) ∧
                          ((((decide (((text.drop ((((scanR text).1).getD (i_1').toNat default).2.1).toNat).length : Int) < (((((scanR text).1).getD (i_1').toNat default).2.2).length : Int) + 2)) || (!decide ((((text.drop ((((scanR text).1).getD (i_1').toNat default).2.1).toNat).getD (0 : Int).toNat 0).toNat : Int) = 47))) || (!decide (((text.drop ((((scanR text).1).getD (i_1').toNat default).2.1).toNat).drop (1 : Int).toNat).take (((((((scanR text).1).getD (i_1').toNat default).2.2).length : Int) + 1).toNat - (1 : Int).toNat) = (((scanR text).1).getD (i_1').toNat default).2.2))) = false → (I64 ((((((scanR text).1).getD (i_1').toNat default).2.2).length : Int) + 1)) ∧ (0 ≤ ((((((scanR text).1).getD (i_1').toNat default).2.2).length : Int) + 1) ∧ ((((((scanR text).1).getD (i_1').toNat default).2.2).length : Int) + 1) < (text.drop ((((scanR text).1).getD (i_1').toNat default).2.1).toNat).length)) ∧
                          (if ((((decide (((text.drop ((((scanR text).1).getD (i_1').toNat default).2.1).toNat).length : Int) < (((((scanR text).1).getD (i_1').toNat default).2.2).length : Int) + 2)) || (!decide ((((text.drop ((((scanR text).1).getD (i_1').toNat default).2.1).toNat).getD (0 : Int).toNat 0).toNat : Int) = 47))) || (!decide (((text.drop ((((scanR text).1).getD (i_1').toNat default).2.1).toNat).drop (1 : Int).toNat).take (((((((scanR text).1).getD (i_1').toNat default).2.2).length : Int) + 1).toNat - (1 : Int).toNat) = (((scanR text).1).getD (i_1').toNat default).2.2))) || (!decide ((((text.drop ((((scanR text).1).getD (i_1').toNat default).2.1).toNat).getD ((((((scanR text).1).getD (i_1').toNat default).2.2).length : Int) + 1).toNat 0).toNat : Int) = 47))) = true then
                            K false
                          else
                            (I64 ((((((scanR text).1).getD (i_1').toNat default).2.2).length : Int) + 2)) ∧
                            (I64 (((((scanR text).1).getD (i_1').toNat default).2.1) + ((((((scanR text).1).getD (i_1').toNat default).2.2).length : Int) + 2))) ∧
                            J0_22' (((((scanR text).1).getD (i_1').toNat default).2.1) + ((((((scanR text).1).getD (i_1').toNat default).2.2).length : Int) + 2)))
                        else
                          (if (decide ((((scanR text).1).getD (i_1').toNat default).1 = 2)) = true then
                            ∃ (Inv_6' : Int → Prop) (mu_6' : Int → Nat),
                              Inv_6' 1 ∧ ∀ (k_28' : Int), Inv_6' k_28' →
                                ((decide (k_28' < ((text.drop ((((scanR text).1).getD (i_1').toNat default).2.1).toNat).length : Int))) = true → (0 ≤ k_28' ∧ k_28' < (text.drop ((((scanR text).1).getD (i_1').toNat default).2.1).toNat).length)) ∧
                                (if ((decide (k_28' < ((text.drop ((((scanR text).1).getD (i_1').toNat default).2.1).toNat).length : Int))) && (!decide ((((text.drop ((((scanR text).1).getD (i_1').toNat default).2.1).toNat).getD k_28'.toNat 0).toNat : Int) = 34))) = true then
                                  ∃ (J0_26' : Int → Prop),
                                    (∀ (k_29' : Int), J0_26' k_29' →
                                      (I64 (k_29' + 1)) ∧
                                      Inv_6' (k_29' + 1) ∧ mu_6' (k_29' + 1) < mu_6' k_28') ∧
                                    (0 ≤ k_28' ∧ k_28' < (text.drop ((((scanR text).1).getD (i_1').toNat default).2.1).toNat).length) ∧
                                    (if (decide ((((text.drop ((((scanR text).1).getD (i_1').toNat default).2.1).toNat).getD k_28'.toNat 0).toNat : Int) = 92)) = true then
                                      (I64 (k_28' + 1)) ∧
                                      J0_26' (k_28' + 1)
                                    else
                                      J0_26' k_28')
                                else
                                  (0 ≤ (0 : Int) ∧ (0 : Int) < (text.drop ((((scanR text).1).getD (i_1').toNat default).2.1).toNat).length) ∧
                                  (if ((!decide ((((text.drop ((((scanR text).1).getD (i_1').toNat default).2.1).toNat).getD (0 : Int).toNat 0).toNat : Int) = 34)) || (decide (((text.drop ((((scanR text).1).getD (i_1').toNat default).2.1).toNat).length : Int) ≤ k_28'))) = true then
                                    K false
                                  else
                                    (I64 (k_28' + 1)) ∧
                                    (I64 (((((scanR text).1).getD (i_1').toNat default).2.1) + (k_28' + 1))) ∧
                                    J0_22' (((((scanR text).1).getD (i_1').toNat default).2.1) + (k_28' + 1))))
                          else
                            (I64 ((((scanR text).1).length : Int) - 1)) ∧
                            (if (!decide (i_1' = (((scanR text).1).length : Int) - 1)) = true then
                              K false
                            else
                              J0_22' ((((scanR text).1).getD (i_1').toNat default).2.1)))))) ∧
                    (if (decide ((((scanR text).1).getD (i_1').toNat default).1 = 1)) = true then
                      J0_23' (decide ((((scanR text).1).getD (i_1').toNat default).1 = 1))
                    else
                      J0_23' (decide ((((scanR text).1).getD (i_1').toNat default).1 = 4))))
            else
              K (decide (at0_3' = (text.length : Int)))))))
set_option maxRecDepth 100000 in
theorem lplaces_wp  (text : List UInt8) (K : Bool → Prop) (h : lplaces_vc text K) :
    Does Try.prog 5 [st text] [] [] (fun o => (∃ (v : Bool), K v ∧ o = .ret (Value.bool v) []) ∨ (False)) := by
  unfold lplaces_vc at h
  refine does_of_wc (n := 191) (L0 := [(0, st text)]) Try.func5 rfl rfl rfl rfl (fun w0 M Q hE => ?_)
  refine wc_seq (fun K0 hK => ?_)
  refine wc_region ?_
  refine WL.val (OV.assign rfl) rfl rfl rfl ?_
  refine WL.nil ?_
  refine KX.go (hK [(0, st text)] _ ?_) ⟨rfl, trivial⟩
  refine wc_seq (fun K0_1' hK_1' => ?_)
  refine wc_seq (fun K0_2' hK_2' => ?_)
  refine wc_region ?_
  refine WL.call (A := []) tf_ent_9 rfl (speaks_does) rfl trivial rfl rfl ?_
  refine WL.val (OV.not rfl) rfl rfl rfl ?_
  refine WL.nil ?_
  refine KX.go (hK_2' [(0, st text), (11, Value.bool false)] _ ?_) ⟨rfl, rfl, trivial⟩
  refine wc_condF rfl ?_
  refine wc_skip ?_
  refine KX.go (hK_1' [(0, st text)] _ ?_) ⟨rfl, trivial⟩
  refine wc_seq (fun K0_3' hK_3' => ?_)
  refine wc_region ?_
  refine WL.val (OV.move rfl) rfl rfl rfl ?_
  refine WL.callS tf_ent_11 rfl (scan_does text) rfl trivial rfl rfl (fun r H' hS => ?_) (fun c H' hS => ?_)
  · obtain ⟨w, ho⟩ := hS
    cases ho
    refine WL.val (OV.move rfl) rfl rfl rfl ?_
    refine WL.val (OV.extract 0 rfl rfl) rfl rfl rfl ?_
    refine WL.val (OV.extract 1 rfl rfl) rfl rfl rfl ?_
    refine WL.make (MV.alloc tf_zero_29) rfl rfl rfl (fun b => ?_)
    refine WL.val (OV.assign rfl) rfl rfl rfl ?_
    refine WL.storeW (vs := [Value.int .i64 ((scanR text).2.1), Value.int .i64 ((scanR text).2.2), st []]) 0 rfl rfl rfl rfl rfl tf_size_29 rfl rfl rfl ?_
    refine WL.nil ?_
    refine KX.go (hK_3' [(0, st text), (3, w), (4, Value.pointer (some ⟨b, 0, none⟩))] _ ?_) ⟨rfl, rfl, rfl, trivial⟩
    refine wc_seq (fun K0_4' hK_4' => ?_)
    refine wc_seq (fun K0_5' hK_5' => ?_)
    refine wc_region ?_
    refine WL.val (OV.loadR rfl (At.own 0 rfl) tf_row_29) rfl rfl rfl ?_
    refine WL.val (OV.build rfl (cs := [Value.int .i64 0, Value.int .i64 0, st []]) rfl) rfl rfl rfl ?_
    refine WL.val (OV.neqF (rs := [decide ((scanR text).2.1 = 0), decide ((scanR text).2.2 = 0), decide (([] : List UInt8) = [])]) rfl rfl Try.underlying29 tf_stood_29 tf_eqg_29 ⟨rfl, tf_scal_27, ⟨_, _, rfl, rfl, ScalEq.int Try.underlying27⟩, ⟨rfl, tf_scal_3, ⟨_, _, rfl, rfl, ScalEq.int Try.underlying3⟩, ⟨rfl, tf_scal_9, ⟨_, _, rfl, rfl, ScalEq.str Try.underlying9⟩, trivial⟩⟩⟩) rfl rfl rfl ?_
    refine WL.nil ?_
    refine KX.go (hK_5' [(0, st text), (3, w), (4, Value.pointer (some ⟨b, 0, none⟩)), (19, Value.bool (!andAll [decide ((scanR text).2.1 = 0), decide ((scanR text).2.2 = 0), decide (([] : List UInt8) = [])]))] _ ?_) ⟨rfl, rfl, rfl, rfl, trivial⟩
    refine wc_cond (b := !andAll [decide ((scanR text).2.1 = 0), decide ((scanR text).2.2 = 0), decide (([] : List UInt8) = [])]) rfl (fun hb => ?_) (fun hb => ?_)
    · replace h := if_T h hb
      refine wc_seq (fun K0_6' hK_6' => ?_)
      refine wc_region ?_
      refine WL.val (OV.move rfl) rfl rfl rfl ?_
      refine WL.val (OV.lenRow 1 rfl rfl tf_sl_26) rfl rfl rfl ?_
      refine WL.val (OV.eql rfl rfl) rfl rfl rfl ?_
      refine WL.val (OV.move rfl) rfl rfl rfl ?_
      refine WL.cut 4 [(27, Value.bool ((decide ((((scanR text).1).length : Int) = 0)) && (!decide ((scanR text).2.1 = 0))))] ?_ (fun K0_7' hK_7' => ?_)
      rotate_left
      · refine WL.split (decide ((((scanR text).1).length : Int) = 0)) (fun hb => ?_) (fun hb => ?_)
        · refine WL.set 23 rfl (congrArg Value.bool hb) ?_
          refine WL.val (OV.fieldAddr0 rfl tf_field_29_0) rfl rfl rfl ?_
          refine WL.val (OV.load rfl (At.own 0 rfl) rfl tf_scal_27) rfl rfl rfl ?_
          refine WL.val (OV.neq rfl rfl) rfl rfl rfl ?_
          refine WL.val (OV.pickT rfl rfl) rfl rfl rfl ?_
          refine WL.set 27 rfl (bT (v := !decide ((scanR text).2.1 = 0)) hb) ?_
          exact WL.end_ (KX.go hK_7' ⟨rfl, trivial⟩)
        · refine WL.set 23 rfl (congrArg Value.bool hb) ?_
          refine WL.skip rfl rfl rfl ?_
          refine WL.skip rfl rfl rfl ?_
          refine WL.skip rfl rfl rfl ?_
          refine WL.val (OV.pickF rfl rfl) rfl rfl rfl ?_
          refine WL.set 27 rfl (bF (v := !decide ((scanR text).2.1 = 0)) hb) ?_
          exact WL.end_ (KX.go hK_7' ⟨rfl, trivial⟩)
      refine WL.val (OV.assign rfl) rfl rfl rfl ?_
      refine WL.nil ?_
      refine KX.go (hK_6' [(2, Value.bool ((decide ((((scanR text).1).length : Int) = 0)) && (!decide ((scanR text).2.1 = 0))))] _ ?_) ⟨rfl, trivial⟩
      refine wc_ret ?_
      exact hE.ret [] rfl rfl (.inl ⟨_, h, rfl⟩) (ResV.of1 rfl (RV.tmp rfl))
    · replace h := if_F h hb
      refine wc_skip ?_
      refine KX.go (hK_4' [(0, st text), (3, w)] _ ?_) ⟨rfl, rfl, trivial⟩
      refine wc_seq (fun K0_8' hK_8' => ?_)
      refine wc_seq (fun K0_9' hK_9' => ?_)
      refine wc_region ?_
      refine WL.val (OV.move rfl) rfl rfl rfl ?_
      refine WL.val (OV.lenRow 1 rfl rfl tf_sl_26) rfl rfl rfl ?_
      refine WL.val (OV.eql rfl rfl) rfl rfl rfl ?_
      refine WL.val (OV.move rfl) rfl rfl rfl ?_
      obtain ⟨o_3', h⟩ := h
      refine WL.cut 11 [(0, st text), (3, w), (42, Value.bool ((decide ((((scanR text).1).length : Int) = 0)) || (!andAll [decide ((((scanR text).1).getD (((((scanR text).1).length : Int) - 1)).toNat default).1 = 0), decide ((((scanR text).1).getD (((((scanR text).1).length : Int) - 1)).toNat default).2.1 = (text.length : Int)), decide ((((scanR text).1).getD (((((scanR text).1).length : Int) - 1)).toNat default).2.2 = [])])))] ?_ (fun K0_10' hK_10' => ?_)
      rotate_left
      · refine WL.split (decide ((((scanR text).1).length : Int) = 0)) (fun hb => ?_) (fun hb => ?_)
        · refine WL.set 31 rfl (congrArg Value.bool hb) ?_
          refine WL.skip rfl rfl rfl ?_
          refine WL.skip rfl rfl rfl ?_
          refine WL.skip rfl rfl rfl ?_
          refine WL.skip rfl rfl rfl ?_
          refine WL.skip rfl rfl rfl ?_
          refine WL.skip rfl rfl rfl ?_
          refine WL.skip rfl rfl rfl ?_
          refine WL.skip rfl rfl rfl ?_
          refine WL.skip rfl rfl rfl ?_
          refine WL.skip rfl rfl rfl ?_
          refine WL.val (OV.pickT rfl rfl) rfl rfl rfl ?_
          refine WL.set 42 rfl (oT (v := !andAll [decide ((((scanR text).1).getD (((((scanR text).1).length : Int) - 1)).toNat default).1 = 0), decide ((((scanR text).1).getD (((((scanR text).1).length : Int) - 1)).toNat default).2.1 = (text.length : Int)), decide ((((scanR text).1).getD (((((scanR text).1).length : Int) - 1)).toNat default).2.2 = [])]) hb) ?_
          exact WL.end_ (KX.go hK_10' ⟨rfl, rfl, rfl, trivial⟩)
        · obtain ⟨o_1', o_2'⟩ := o_3' hb
          refine WL.set 31 rfl (congrArg Value.bool hb) ?_
          refine WL.val (OV.move rfl) rfl rfl rfl ?_
          refine WL.val (OV.move rfl) rfl rfl rfl ?_
          refine WL.val (OV.lenRow 1 rfl rfl tf_sl_26) rfl rfl rfl ?_
          refine WL.val (OV.sub rfl rfl o_1') rfl rfl rfl ?_
          refine WL.val (OV.indexRow 1 rfl rfl rfl tf_sl_26 o_2') rfl rfl rfl ?_
          refine WL.val (OV.loadE (f := tokC) 1 rfl rfl tokC_len (by decide) (by omega) tf_row_34) rfl rfl rfl ?_
          refine WL.val (OV.move rfl) rfl rfl rfl ?_
          refine WL.val (OV.len rfl tf_str_9) rfl rfl rfl ?_
          refine WL.val (OV.build rfl (cs := [Value.int .i64 0, Value.int .i64 (text.length : Int), st []]) rfl) rfl rfl rfl ?_
          refine WL.val (OV.neqF (rs := [decide ((((scanR text).1).getD (((((scanR text).1).length : Int) - 1)).toNat default).1 = 0), decide ((((scanR text).1).getD (((((scanR text).1).length : Int) - 1)).toNat default).2.1 = (text.length : Int)), decide ((((scanR text).1).getD (((((scanR text).1).length : Int) - 1)).toNat default).2.2 = [])]) rfl rfl Try.underlying34 tf_stood_34 tf_eqg_34 ⟨rfl, tf_scal_3, ⟨_, _, rfl, rfl, ScalEq.int Try.underlying3⟩, ⟨rfl, tf_scal_3, ⟨_, _, rfl, rfl, ScalEq.int Try.underlying3⟩, ⟨rfl, tf_scal_9, ⟨_, _, rfl, rfl, ScalEq.str Try.underlying9⟩, trivial⟩⟩⟩) rfl rfl rfl ?_
          refine WL.val (OV.pickF rfl rfl) rfl rfl rfl ?_
          refine WL.set 42 rfl (oF (v := !andAll [decide ((((scanR text).1).getD (((((scanR text).1).length : Int) - 1)).toNat default).1 = 0), decide ((((scanR text).1).getD (((((scanR text).1).length : Int) - 1)).toNat default).2.1 = (text.length : Int)), decide ((((scanR text).1).getD (((((scanR text).1).length : Int) - 1)).toNat default).2.2 = [])]) hb) ?_
          exact WL.end_ (KX.go hK_10' ⟨rfl, rfl, rfl, trivial⟩)
      refine WL.nil ?_
      refine KX.go (hK_9' [(0, st text), (3, w), (42, Value.bool ((decide ((((scanR text).1).length : Int) = 0)) || (!andAll [decide ((((scanR text).1).getD (((((scanR text).1).length : Int) - 1)).toNat default).1 = 0), decide ((((scanR text).1).getD (((((scanR text).1).length : Int) - 1)).toNat default).2.1 = (text.length : Int)), decide ((((scanR text).1).getD (((((scanR text).1).length : Int) - 1)).toNat default).2.2 = [])])))] _ ?_) ⟨rfl, rfl, rfl, trivial⟩
      refine wc_cond (b := (decide ((((scanR text).1).length : Int) = 0)) || (!andAll [decide ((((scanR text).1).getD (((((scanR text).1).length : Int) - 1)).toNat default).1 = 0), decide ((((scanR text).1).getD (((((scanR text).1).length : Int) - 1)).toNat default).2.1 = (text.length : Int)), decide ((((scanR text).1).getD (((((scanR text).1).length : Int) - 1)).toNat default).2.2 = [])])) rfl (fun hb => ?_) (fun hb => ?_)
      · replace h := if_T h hb
        refine wc_seq (fun K0_11' hK_11' => ?_)
        refine wc_region ?_
        refine WL.val (OV.assign rfl) rfl rfl rfl ?_
        refine WL.nil ?_
        refine KX.go (hK_11' [(2, Value.bool false)] _ ?_) ⟨rfl, trivial⟩
        refine wc_ret ?_
        exact hE.ret [] rfl rfl (.inl ⟨_, h, rfl⟩) (ResV.of1 rfl (RV.tmp rfl))
      · replace h := if_F h hb
        refine wc_skip ?_
        refine KX.go (hK_8' [(0, st text), (3, w)] _ ?_) ⟨rfl, rfl, trivial⟩
        refine wc_seq (fun K0_12' hK_12' => ?_)
        refine wc_region ?_
        refine WL.val (OV.assign rfl) rfl rfl rfl ?_
        refine WL.nil ?_
        refine KX.go (hK_12' [(0, st text), (3, w), (5, Value.int .i64 0)] _ ?_) ⟨rfl, rfl, rfl, trivial⟩
        refine wc_seq (fun K0_13' hK_13' => ?_)
        refine wc_seq (fun K0_14' hK_14' => ?_)
        refine wc_region ?_
        refine WL.val (OV.assign rfl) rfl rfl rfl ?_
        refine WL.nil ?_
        refine KX.go (hK_14' [(0, st text), (3, w), (5, Value.int .i64 0), (6, Value.int .i64 0)] _ ?_) ⟨rfl, rfl, rfl, rfl, trivial⟩
        refine wc_block ?_
        refine WC.pick (H' := [HA.row w 34 3 ((scanR text).1).length (((scanR text).1).flatMap tokC)]) [1] rfl rfl ?_
        obtain ⟨Inv_4', mu_4', h0_4', hr_4'⟩ := h
        refine wc_loop (S := Int × Int) (fun σ => Inv_4' σ.1 σ.2) (fun σ => mu_4' σ.1 σ.2) (fun σ => [(0, st text), (3, w), (5, Value.int .i64 σ.1), (6, Value.int .i64 σ.2)]) (fun σ => [HA.row w 34 3 ((scanR text).1).length (((scanR text).1).flatMap tokC)]) (0, 0) h0_4' ⟨rfl, rfl, rfl, rfl, trivial⟩ rfl ?_
        rintro ⟨at0_3', i_1'⟩ hi K0_229' hK_229'
        have h := hr_4' at0_3' i_1' hi
        show WC _ _ _ _ [(0, st text), (3, w), (5, Value.int .i64 at0_3'), (6, Value.int .i64 i_1')] [HA.row w 34 3 ((scanR text).1).length (((scanR text).1).flatMap tokC)]
        refine wc_seq (fun K0_230' hK_230' => ?_)
        refine wc_seq (fun K0_231' hK_231' => ?_)
        refine wc_region ?_
        refine WL.val (OV.move rfl) rfl rfl rfl ?_
        refine WL.val (OV.move rfl) rfl rfl rfl ?_
        refine WL.val (OV.lenRow 0 rfl rfl tf_sl_26) rfl rfl rfl ?_
        refine WL.val (OV.lss rfl rfl) rfl rfl rfl ?_
        refine WL.nil ?_
        refine KX.go (hK_231' [(0, st text), (3, w), (5, Value.int .i64 at0_3'), (6, Value.int .i64 i_1'), (46, Value.bool (decide (i_1' < (((scanR text).1).length : Int))))] _ ?_) ⟨rfl, rfl, rfl, rfl, rfl, trivial⟩
        refine wc_cond (b := decide (i_1' < (((scanR text).1).length : Int))) rfl (fun hb => ?_) (fun hb => ?_)
        · replace h := if_T h hb
          refine wc_skip ?_
          refine KX.go (hK_230' [(0, st text), (3, w), (5, Value.int .i64 at0_3'), (6, Value.int .i64 i_1')] _ ?_) ⟨rfl, rfl, rfl, rfl, trivial⟩
          obtain ⟨J0_22', hJ_22', h⟩ := h
          refine wc_seqJ (X := Int) (fun σ => J0_22' σ) (fun σ => [(0, st text), (3, w), (5, Value.int .i64 σ), (6, Value.int .i64 i_1')]) (fun σ => [HA.row w 34 3 ((scanR text).1).length (((scanR text).1).flatMap tokC)]) ?_ (fun K0_284' hK_284' => ?_)
          · rintro at0_4' hj
            replace h := hJ_22' at0_4' hj
            show WC _ _ _ _ [(0, st text), (3, w), (5, Value.int .i64 at0_4'), (6, Value.int .i64 i_1')] [HA.row w 34 3 ((scanR text).1).length (((scanR text).1).flatMap tokC)]
            refine wc_region ?_
            refine WL.val (OV.move rfl) rfl rfl rfl ?_
            obtain ⟨o_230', h⟩ := h
            refine WL.val (OV.add rfl rfl o_230') rfl rfl rfl ?_
            refine WL.val (OV.assign rfl) rfl rfl rfl ?_
            refine WL.nil ?_
            exact KX.goH (hK_229' (at0_4', i_1' + 1) h.1 h.2) ⟨rfl, rfl, rfl, rfl, trivial⟩ [0] rfl rfl
          · skip
            refine wc_block ?_
            refine wc_seq (fun K0_285' hK_285' => ?_)
            refine wc_region ?_
            refine WL.val (OV.move rfl) rfl rfl rfl ?_
            refine WL.val (OV.move rfl) rfl rfl rfl ?_
            obtain ⟨o_231', h⟩ := h
            refine WL.val (OV.indexRow 0 rfl rfl rfl tf_sl_26 o_231') rfl rfl rfl ?_
            refine WL.val (OV.loadE (f := tokC) 0 rfl rfl tokC_len (by decide) (by omega) tf_row_34) rfl rfl rfl ?_
            refine WL.make (MV.alloc tf_zero_34) rfl rfl rfl (fun b_6' => ?_)
            refine WL.storeW (vs := [Value.int .i64 ((((scanR text).1).getD (i_1').toNat default).1), Value.int .i64 ((((scanR text).1).getD (i_1').toNat default).2.1), st ((((scanR text).1).getD (i_1').toNat default).2.2)]) 0 rfl rfl rfl rfl rfl tf_size_34 rfl rfl rfl ?_
            refine WL.nil ?_
            refine KX.go (hK_285' [(0, st text), (3, w), (5, Value.int .i64 at0_3'), (6, Value.int .i64 i_1'), (7, Value.pointer (some ⟨b_6', 0, none⟩))] _ ?_) ⟨rfl, rfl, rfl, rfl, rfl, trivial⟩
            refine wc_seq (fun K0_286' hK_286' => ?_)
            refine wc_seq (fun K0_287' hK_287' => ?_)
            refine wc_region ?_
            refine WL.val (OV.fieldAddr0 rfl tf_field_34_1) rfl rfl rfl ?_
            refine WL.val (OV.load rfl (At.own 0 rfl) rfl tf_scal_3) rfl rfl rfl ?_
            refine WL.val (OV.move rfl) rfl rfl rfl ?_
            refine WL.val (OV.lss rfl rfl) rfl rfl rfl ?_
            refine WL.val (OV.move rfl) rfl rfl rfl ?_
            refine WL.cut 6 [(0, st text), (3, w), (5, Value.int .i64 at0_3'), (6, Value.int .i64 i_1'), (7, Value.pointer (some ⟨b_6', 0, none⟩)), (63, Value.bool ((decide ((((scanR text).1).getD (i_1').toNat default).2.1 < at0_3')) || (decide ((text.length : Int) < (((scanR text).1).getD (i_1').toNat default).2.1))))] ?_ (fun K0_288' hK_288' => ?_)
            rotate_left
            · refine WL.split (decide ((((scanR text).1).getD (i_1').toNat default).2.1 < at0_3')) (fun hb => ?_) (fun hb => ?_)
              · refine WL.set 57 rfl (congrArg Value.bool hb) ?_
                refine WL.skip rfl rfl rfl ?_
                refine WL.skip rfl rfl rfl ?_
                refine WL.skip rfl rfl rfl ?_
                refine WL.skip rfl rfl rfl ?_
                refine WL.skip rfl rfl rfl ?_
                refine WL.val (OV.pickT rfl rfl) rfl rfl rfl ?_
                refine WL.set 63 rfl (oT (v := decide ((text.length : Int) < (((scanR text).1).getD (i_1').toNat default).2.1)) hb) ?_
                exact WL.end_ (KX.go hK_288' ⟨rfl, rfl, rfl, rfl, rfl, rfl, trivial⟩)
              · refine WL.set 57 rfl (congrArg Value.bool hb) ?_
                refine WL.val (OV.fieldAddr0 rfl tf_field_34_1) rfl rfl rfl ?_
                refine WL.val (OV.load rfl (At.own 0 rfl) rfl tf_scal_3) rfl rfl rfl ?_
                refine WL.val (OV.move rfl) rfl rfl rfl ?_
                refine WL.val (OV.len rfl tf_str_9) rfl rfl rfl ?_
                refine WL.val (OV.gtr rfl rfl) rfl rfl rfl ?_
                refine WL.val (OV.pickF rfl rfl) rfl rfl rfl ?_
                refine WL.set 63 rfl (oF (v := decide ((text.length : Int) < (((scanR text).1).getD (i_1').toNat default).2.1)) hb) ?_
                exact WL.end_ (KX.go hK_288' ⟨rfl, rfl, rfl, rfl, rfl, rfl, trivial⟩)
            refine WL.val (OV.move rfl) rfl rfl rfl ?_
            obtain ⟨o_235', h⟩ := h
            refine WL.cut 8 [(0, st text), (3, w), (6, Value.int .i64 i_1'), (7, Value.pointer (some ⟨b_6', 0, none⟩)), (72, Value.bool (((decide ((((scanR text).1).getD (i_1').toNat default).2.1 < at0_3')) || (decide ((text.length : Int) < (((scanR text).1).getD (i_1').toNat default).2.1))) || (!(blankB ((text.drop at0_3'.toNat).take (((((scanR text).1).getD (i_1').toNat default).2.1).toNat - at0_3'.toNat))))))] ?_ (fun K0_289' hK_289' => ?_)
            rotate_left
            · refine WL.split ((decide ((((scanR text).1).getD (i_1').toNat default).2.1 < at0_3')) || (decide ((text.length : Int) < (((scanR text).1).getD (i_1').toNat default).2.1))) (fun hb => ?_) (fun hb => ?_)
              · refine WL.set 64 rfl (congrArg Value.bool hb) ?_
                refine WL.skip rfl rfl rfl ?_
                refine WL.skip rfl rfl rfl ?_
                refine WL.skip rfl rfl rfl ?_
                refine WL.skip rfl rfl rfl ?_
                refine WL.skip rfl rfl rfl ?_
                refine WL.skip rfl rfl rfl ?_
                refine WL.skip rfl rfl rfl ?_
                refine WL.val (OV.pickT rfl rfl) rfl rfl rfl ?_
                refine WL.set 72 rfl (oT (v := !(blankB ((text.drop at0_3'.toNat).take (((((scanR text).1).getD (i_1').toNat default).2.1).toNat - at0_3'.toNat)))) hb) ?_
                exact WL.end_ (KX.go hK_289' ⟨rfl, rfl, rfl, rfl, rfl, trivial⟩)
              · obtain ⟨o_233', o_234'⟩ := o_235' hb
                refine WL.set 64 rfl (congrArg Value.bool hb) ?_
                refine WL.val (OV.move rfl) rfl rfl rfl ?_
                refine WL.val (OV.move rfl) rfl rfl rfl ?_
                refine WL.val (OV.fieldAddr0 rfl tf_field_34_1) rfl rfl rfl ?_
                refine WL.val (OV.load rfl (At.own 0 rfl) rfl tf_scal_3) rfl rfl rfl ?_
                refine WL.val (OV.sliceS rfl rfl rfl tf_str_9 o_233') rfl rfl rfl ?_
                refine WL.call (A := []) tf_ent_13 rfl (blank_does ((text.drop at0_3'.toNat).take (((((scanR text).1).getD (i_1').toNat default).2.1).toNat - at0_3'.toNat)) o_234') rfl trivial rfl rfl ?_
                refine WL.val (OV.not rfl) rfl rfl rfl ?_
                refine WL.val (OV.pickF rfl rfl) rfl rfl rfl ?_
                refine WL.set 72 rfl (oF (v := !(blankB ((text.drop at0_3'.toNat).take (((((scanR text).1).getD (i_1').toNat default).2.1).toNat - at0_3'.toNat)))) hb) ?_
                exact WL.end_ (KX.go hK_289' ⟨rfl, rfl, rfl, rfl, rfl, trivial⟩)
            refine WL.nil ?_
            refine KX.go (hK_287' [(0, st text), (3, w), (6, Value.int .i64 i_1'), (7, Value.pointer (some ⟨b_6', 0, none⟩)), (72, Value.bool (((decide ((((scanR text).1).getD (i_1').toNat default).2.1 < at0_3')) || (decide ((text.length : Int) < (((scanR text).1).getD (i_1').toNat default).2.1))) || (!(blankB ((text.drop at0_3'.toNat).take (((((scanR text).1).getD (i_1').toNat default).2.1).toNat - at0_3'.toNat))))))] _ ?_) ⟨rfl, rfl, rfl, rfl, rfl, trivial⟩
            refine wc_cond (b := ((decide ((((scanR text).1).getD (i_1').toNat default).2.1 < at0_3')) || (decide ((text.length : Int) < (((scanR text).1).getD (i_1').toNat default).2.1))) || (!(blankB ((text.drop at0_3'.toNat).take (((((scanR text).1).getD (i_1').toNat default).2.1).toNat - at0_3'.toNat))))) rfl (fun hb => ?_) (fun hb => ?_)
            · replace h := if_T h hb
              refine wc_seq (fun K0_290' hK_290' => ?_)
              refine wc_region ?_
              refine WL.val (OV.assign rfl) rfl rfl rfl ?_
              refine WL.nil ?_
              refine KX.go (hK_290' [(2, Value.bool false)] _ ?_) ⟨rfl, trivial⟩
              refine wc_ret ?_
              exact hE.ret [] rfl rfl (.inl ⟨_, h, rfl⟩) (ResV.of1 rfl (RV.tmp rfl))
            · replace h := if_F h hb
              refine wc_skip ?_
              refine KX.go (hK_286' [(0, st text), (3, w), (6, Value.int .i64 i_1'), (7, Value.pointer (some ⟨b_6', 0, none⟩))] _ ?_) ⟨rfl, rfl, rfl, rfl, trivial⟩
              refine wc_seq (fun K0_291' hK_291' => ?_)
              refine wc_region ?_
              refine WL.val (OV.fieldAddr0 rfl tf_field_34_1) rfl rfl rfl ?_
              refine WL.val (OV.load rfl (At.own 0 rfl) rfl tf_scal_3) rfl rfl rfl ?_
              refine WL.val (OV.assign rfl) rfl rfl rfl ?_
              refine WL.nil ?_
              refine KX.go (hK_291' [(0, st text), (3, w), (5, Value.int .i64 ((((scanR text).1).getD (i_1').toNat default).2.1)), (6, Value.int .i64 i_1'), (7, Value.pointer (some ⟨b_6', 0, none⟩))] _ ?_) ⟨rfl, rfl, rfl, rfl, rfl, trivial⟩
              refine wc_seq (fun K0_292' hK_292' => ?_)
              refine wc_region ?_
              refine WL.val (OV.move rfl) rfl rfl rfl ?_
              refine WL.val (OV.move rfl) rfl rfl rfl ?_
              obtain ⟨o_236', h⟩ := h
              refine WL.val (OV.sliceL rfl rfl tf_str_9 o_236') rfl rfl rfl ?_
              refine WL.val (OV.assign rfl) rfl rfl rfl ?_
              refine WL.nil ?_
              refine KX.go (hK_292' [(0, st text), (3, w), (5, Value.int .i64 ((((scanR text).1).getD (i_1').toNat default).2.1)), (6, Value.int .i64 i_1'), (7, Value.pointer (some ⟨b_6', 0, none⟩)), (8, st (text.drop ((((scanR text).1).getD (i_1').toNat default).2.1).toNat))] _ ?_) ⟨rfl, rfl, rfl, rfl, rfl, rfl, trivial⟩
              refine wc_seq (fun K0_293' hK_293' => ?_)
              refine wc_region ?_
              refine WL.val (OV.fieldAddr0 rfl tf_field_34_0) rfl rfl rfl ?_
              refine WL.val (OV.load rfl (At.own 0 rfl) rfl tf_scal_3) rfl rfl rfl ?_
              refine WL.nil ?_
              refine KX.go (hK_293' [(0, st text), (3, w), (5, Value.int .i64 ((((scanR text).1).getD (i_1').toNat default).2.1)), (6, Value.int .i64 i_1'), (7, Value.pointer (some ⟨b_6', 0, none⟩)), (8, st (text.drop ((((scanR text).1).getD (i_1').toNat default).2.1).toNat)), (79, Value.int .i64 ((((scanR text).1).getD (i_1').toNat default).1))] _ ?_) ⟨rfl, rfl, rfl, rfl, rfl, rfl, rfl, trivial⟩
              refine wc_block ?_
              obtain ⟨J0_23', hJ_23', h⟩ := h
              refine wc_seqJ (X := Bool) (fun σ => J0_23' σ) (fun σ => [(0, st text), (3, w), (5, Value.int .i64 ((((scanR text).1).getD (i_1').toNat default).2.1)), (6, Value.int .i64 i_1'), (7, Value.pointer (some ⟨b_6', 0, none⟩)), (8, st (text.drop ((((scanR text).1).getD (i_1').toNat default).2.1).toNat)), (79, Value.int .i64 ((((scanR text).1).getD (i_1').toNat default).1)), (85, Value.bool σ)]) (fun σ => [HA.blk b_6' (.cells [Value.int .i64 ((((scanR text).1).getD (i_1').toNat default).1), Value.int .i64 ((((scanR text).1).getD (i_1').toNat default).2.1), st ((((scanR text).1).getD (i_1').toNat default).2.2)].toArray 34 (0, 0)), HA.row w 34 3 ((scanR text).1).length (((scanR text).1).flatMap tokC)]) ?_ (fun K0_295' hK_295' => ?_)
              · rintro t85_5' hj
                replace h := hJ_23' t85_5' hj
                show WC _ _ _ _ [(0, st text), (3, w), (5, Value.int .i64 ((((scanR text).1).getD (i_1').toNat default).2.1)), (6, Value.int .i64 i_1'), (7, Value.pointer (some ⟨b_6', 0, none⟩)), (8, st (text.drop ((((scanR text).1).getD (i_1').toNat default).2.1).toNat)), (79, Value.int .i64 ((((scanR text).1).getD (i_1').toNat default).1)), (85, Value.bool t85_5')] [HA.blk b_6' (.cells [Value.int .i64 ((((scanR text).1).getD (i_1').toNat default).1), Value.int .i64 ((((scanR text).1).getD (i_1').toNat default).2.1), st ((((scanR text).1).getD (i_1').toNat default).2.2)].toArray 34 (0, 0)), HA.row w 34 3 ((scanR text).1).length (((scanR text).1).flatMap tokC)]
                refine wc_cond (b := t85_5') rfl (fun hb => ?_) (fun hb => ?_)
                · replace h := if_T h hb
                  refine wc_seq (fun K0_296' hK_296' => ?_)
                  refine wc_seq (fun K0_297' hK_297' => ?_)
                  refine wc_draw_all [] tf_mixed (by kernel_rfl) rfl (fun T_10' hT_10' => ?_)
                  refine FL.val (fun _ => OV.fieldAddr0 rfl tf_field_34_2) rfl (fun _ => rfl) rfl rfl ?_
                  refine FL.val (fun _ => OV.load rfl (At.own 0 rfl) rfl tf_scal_9) rfl (fun _ => rfl) rfl rfl ?_
                  refine FL.val (fun _ => OV.eqlS rfl rfl) rfl (fun _ => rfl) rfl rfl ?_
                  refine FL.val (fun _ => OV.move rfl) rfl (fun _ => rfl) rfl rfl ?_
                  refine FL.cut 7 rfl (fun _ => [(0, st text), (3, w), (5, Value.int .i64 ((((scanR text).1).getD (i_1').toNat default).2.1)), (6, Value.int .i64 i_1'), (7, Value.pointer (some ⟨b_6', 0, none⟩)), (8, st (text.drop ((((scanR text).1).getD (i_1').toNat default).2.1).toNat)), (98, Value.bool ((decide ((((scanR text).1).getD (i_1').toNat default).2.2 = [])) || (decide (((text.drop ((((scanR text).1).getD (i_1').toNat default).2.1).toNat).length : Int) < (((((scanR text).1).getD (i_1').toNat default).2.2).length : Int)))))]) ?_ (fun K0_298' hK_298' => ?_)
                  rotate_left
                  · refine FL.split (decide ((((scanR text).1).getD (i_1').toNat default).2.2 = [])) (fun hb => ?_) (fun hb => ?_)
                    · refine FL.set 91 (fun _ => rfl) (congrArg Value.bool hb) ?_
                      refine FL.skip rfl (fun _ => rfl) rfl rfl ?_
                      refine FL.skip rfl (fun _ => rfl) rfl rfl ?_
                      refine FL.skip rfl (fun _ => rfl) rfl rfl ?_
                      refine FL.skip rfl (fun _ => rfl) rfl rfl ?_
                      refine FL.skip rfl (fun _ => rfl) rfl rfl ?_
                      refine FL.skip rfl (fun _ => rfl) rfl rfl ?_
                      refine FL.val (fun _ => OV.pickT rfl rfl) rfl (fun _ => rfl) rfl rfl ?_
                      refine FL.set 98 (fun _ => rfl) (oT (v := decide (((text.drop ((((scanR text).1).getD (i_1').toNat default).2.1).toNat).length : Int) < (((((scanR text).1).getD (i_1').toNat default).2.2).length : Int))) hb) ?_
                      exact FL.weak (L' := fun _ => [(0, st text), (3, w), (5, Value.int .i64 ((((scanR text).1).getD (i_1').toNat default).2.1)), (6, Value.int .i64 i_1'), (7, Value.pointer (some ⟨b_6', 0, none⟩)), (8, st (text.drop ((((scanR text).1).getD (i_1').toNat default).2.1).toNat)), (98, Value.bool ((decide ((((scanR text).1).getD (i_1').toNat default).2.2 = [])) || (decide (((text.drop ((((scanR text).1).getD (i_1').toNat default).2.1).toNat).length : Int) < (((((scanR text).1).getD (i_1').toNat default).2.2).length : Int)))))]) (fun _ => ⟨rfl, rfl, rfl, rfl, rfl, rfl, rfl, trivial⟩) (FL.nil hK_298')
                    · refine FL.set 91 (fun _ => rfl) (congrArg Value.bool hb) ?_
                      refine FL.val (fun _ => OV.move rfl) rfl (fun _ => rfl) rfl rfl ?_
                      refine FL.val (fun _ => OV.len rfl tf_str_9) rfl (fun _ => rfl) rfl rfl ?_
                      refine FL.val (fun _ => OV.fieldAddr0 rfl tf_field_34_2) rfl (fun _ => rfl) rfl rfl ?_
                      refine FL.val (fun _ => OV.load rfl (At.own 0 rfl) rfl tf_scal_9) rfl (fun _ => rfl) rfl rfl ?_
                      refine FL.val (fun _ => OV.len rfl tf_str_9) rfl (fun _ => rfl) rfl rfl ?_
                      refine FL.val (fun _ => OV.lss rfl rfl) rfl (fun _ => rfl) rfl rfl ?_
                      refine FL.val (fun _ => OV.pickF rfl rfl) rfl (fun _ => rfl) rfl rfl ?_
                      refine FL.set 98 (fun _ => rfl) (oF (v := decide (((text.drop ((((scanR text).1).getD (i_1').toNat default).2.1).toNat).length : Int) < (((((scanR text).1).getD (i_1').toNat default).2.2).length : Int))) hb) ?_
                      exact FL.weak (L' := fun _ => [(0, st text), (3, w), (5, Value.int .i64 ((((scanR text).1).getD (i_1').toNat default).2.1)), (6, Value.int .i64 i_1'), (7, Value.pointer (some ⟨b_6', 0, none⟩)), (8, st (text.drop ((((scanR text).1).getD (i_1').toNat default).2.1).toNat)), (98, Value.bool ((decide ((((scanR text).1).getD (i_1').toNat default).2.2 = [])) || (decide (((text.drop ((((scanR text).1).getD (i_1').toNat default).2.1).toNat).length : Int) < (((((scanR text).1).getD (i_1').toNat default).2.2).length : Int)))))]) (fun _ => ⟨rfl, rfl, rfl, rfl, rfl, rfl, rfl, trivial⟩) (FL.nil hK_298')
                  refine FL.val (fun _ => OV.move rfl) rfl (fun _ => rfl) rfl rfl ?_
                  obtain ⟨o_239', h⟩ := h
                  refine FL.cut 9 rfl (fun _ => [(0, st text), (3, w), (5, Value.int .i64 ((((scanR text).1).getD (i_1').toNat default).2.1)), (6, Value.int .i64 i_1'), (7, Value.pointer (some ⟨b_6', 0, none⟩)), (108, Value.bool (((decide ((((scanR text).1).getD (i_1').toNat default).2.2 = [])) || (decide (((text.drop ((((scanR text).1).getD (i_1').toNat default).2.1).toNat).length : Int) < (((((scanR text).1).getD (i_1').toNat default).2.2).length : Int)))) || (!decide ((text.drop ((((scanR text).1).getD (i_1').toNat default).2.1).toNat).take (((((scanR text).1).getD (i_1').toNat default).2.2).length : Int).toNat = (((scanR text).1).getD (i_1').toNat default).2.2))))]) ?_ (fun K0_299' hK_299' => ?_)
                  rotate_left
                  · refine FL.split ((decide ((((scanR text).1).getD (i_1').toNat default).2.2 = [])) || (decide (((text.drop ((((scanR text).1).getD (i_1').toNat default).2.1).toNat).length : Int) < (((((scanR text).1).getD (i_1').toNat default).2.2).length : Int)))) (fun hb => ?_) (fun hb => ?_)
                    · refine FL.set 99 (fun _ => rfl) (congrArg Value.bool hb) ?_
                      refine FL.skip rfl (fun _ => rfl) rfl rfl ?_
                      refine FL.skip rfl (fun _ => rfl) rfl rfl ?_
                      refine FL.skip rfl (fun _ => rfl) rfl rfl ?_
                      refine FL.skip rfl (fun _ => rfl) rfl rfl ?_
                      refine FL.skip rfl (fun _ => rfl) rfl rfl ?_
                      refine FL.skip rfl (fun _ => rfl) rfl rfl ?_
                      refine FL.skip rfl (fun _ => rfl) rfl rfl ?_
                      refine FL.skip rfl (fun _ => rfl) rfl rfl ?_
                      refine FL.val (fun _ => OV.pickT rfl rfl) rfl (fun _ => rfl) rfl rfl ?_
                      refine FL.set 108 (fun _ => rfl) (oT (v := !decide ((text.drop ((((scanR text).1).getD (i_1').toNat default).2.1).toNat).take (((((scanR text).1).getD (i_1').toNat default).2.2).length : Int).toNat = (((scanR text).1).getD (i_1').toNat default).2.2)) hb) ?_
                      exact FL.weak (L' := fun _ => [(0, st text), (3, w), (5, Value.int .i64 ((((scanR text).1).getD (i_1').toNat default).2.1)), (6, Value.int .i64 i_1'), (7, Value.pointer (some ⟨b_6', 0, none⟩)), (108, Value.bool (((decide ((((scanR text).1).getD (i_1').toNat default).2.2 = [])) || (decide (((text.drop ((((scanR text).1).getD (i_1').toNat default).2.1).toNat).length : Int) < (((((scanR text).1).getD (i_1').toNat default).2.2).length : Int)))) || (!decide ((text.drop ((((scanR text).1).getD (i_1').toNat default).2.1).toNat).take (((((scanR text).1).getD (i_1').toNat default).2.2).length : Int).toNat = (((scanR text).1).getD (i_1').toNat default).2.2))))]) (fun _ => ⟨rfl, rfl, rfl, rfl, rfl, rfl, trivial⟩) (FL.nil hK_299')
                    · have o_238' := o_239' hb
                      refine FL.set 99 (fun _ => rfl) (congrArg Value.bool hb) ?_
                      refine FL.val (fun _ => OV.move rfl) rfl (fun _ => rfl) rfl rfl ?_
                      refine FL.val (fun _ => OV.fieldAddr0 rfl tf_field_34_2) rfl (fun _ => rfl) rfl rfl ?_
                      refine FL.val (fun _ => OV.load rfl (At.own 0 rfl) rfl tf_scal_9) rfl (fun _ => rfl) rfl rfl ?_
                      refine FL.val (fun _ => OV.len rfl tf_str_9) rfl (fun _ => rfl) rfl rfl ?_
                      refine FL.val (fun _ => OV.sliceH rfl rfl tf_str_9 o_238') rfl (fun _ => rfl) rfl rfl ?_
                      refine FL.val (fun _ => OV.fieldAddr0 rfl tf_field_34_2) rfl (fun _ => rfl) rfl rfl ?_
                      refine FL.val (fun _ => OV.load rfl (At.own 0 rfl) rfl tf_scal_9) rfl (fun _ => rfl) rfl rfl ?_
                      refine FL.val (fun _ => OV.neqS rfl rfl) rfl (fun _ => rfl) rfl rfl ?_
                      refine FL.val (fun _ => OV.pickF rfl rfl) rfl (fun _ => rfl) rfl rfl ?_
                      refine FL.set 108 (fun _ => rfl) (oF (v := !decide ((text.drop ((((scanR text).1).getD (i_1').toNat default).2.1).toNat).take (((((scanR text).1).getD (i_1').toNat default).2.2).length : Int).toNat = (((scanR text).1).getD (i_1').toNat default).2.2)) hb) ?_
                      exact FL.weak (L' := fun _ => [(0, st text), (3, w), (5, Value.int .i64 ((((scanR text).1).getD (i_1').toNat default).2.1)), (6, Value.int .i64 i_1'), (7, Value.pointer (some ⟨b_6', 0, none⟩)), (108, Value.bool (((decide ((((scanR text).1).getD (i_1').toNat default).2.2 = [])) || (decide (((text.drop ((((scanR text).1).getD (i_1').toNat default).2.1).toNat).length : Int) < (((((scanR text).1).getD (i_1').toNat default).2.2).length : Int)))) || (!decide ((text.drop ((((scanR text).1).getD (i_1').toNat default).2.1).toNat).take (((((scanR text).1).getD (i_1').toNat default).2.2).length : Int).toNat = (((scanR text).1).getD (i_1').toNat default).2.2))))]) (fun _ => ⟨rfl, rfl, rfl, rfl, rfl, rfl, trivial⟩) (FL.nil hK_299')
                  refine FL.weak (L' := fun _ => [(0, st text), (3, w), (5, Value.int .i64 ((((scanR text).1).getD (i_1').toNat default).2.1)), (6, Value.int .i64 i_1'), (7, Value.pointer (some ⟨b_6', 0, none⟩)), (108, Value.bool (((decide ((((scanR text).1).getD (i_1').toNat default).2.2 = [])) || (decide (((text.drop ((((scanR text).1).getD (i_1').toNat default).2.1).toNat).length : Int) < (((((scanR text).1).getD (i_1').toNat default).2.2).length : Int)))) || (!decide ((text.drop ((((scanR text).1).getD (i_1').toNat default).2.1).toNat).take (((((scanR text).1).getD (i_1').toNat default).2.2).length : Int).toNat = (((scanR text).1).getD (i_1').toNat default).2.2))))]) (fun _ => ⟨rfl, rfl, rfl, rfl, rfl, rfl, trivial⟩) (FL.nil (hT_10' (fun _ => [(0, st text), (3, w), (5, Value.int .i64 ((((scanR text).1).getD (i_1').toNat default).2.1)), (6, Value.int .i64 i_1'), (7, Value.pointer (some ⟨b_6', 0, none⟩)), (108, Value.bool (((decide ((((scanR text).1).getD (i_1').toNat default).2.2 = [])) || (decide (((text.drop ((((scanR text).1).getD (i_1').toNat default).2.1).toNat).length : Int) < (((((scanR text).1).getD (i_1').toNat default).2.2).length : Int)))) || (!decide ((text.drop ((((scanR text).1).getD (i_1').toNat default).2.1).toNat).take (((((scanR text).1).getD (i_1').toNat default).2.2).length : Int).toNat = (((scanR text).1).getD (i_1').toNat default).2.2))))]) (fun _ => ?_)))
                  refine KX.go (hK_297' [(0, st text), (3, w), (5, Value.int .i64 ((((scanR text).1).getD (i_1').toNat default).2.1)), (6, Value.int .i64 i_1'), (7, Value.pointer (some ⟨b_6', 0, none⟩)), (108, Value.bool (((decide ((((scanR text).1).getD (i_1').toNat default).2.2 = [])) || (decide (((text.drop ((((scanR text).1).getD (i_1').toNat default).2.1).toNat).length : Int) < (((((scanR text).1).getD (i_1').toNat default).2.2).length : Int)))) || (!decide ((text.drop ((((scanR text).1).getD (i_1').toNat default).2.1).toNat).take (((((scanR text).1).getD (i_1').toNat default).2.2).length : Int).toNat = (((scanR text).1).getD (i_1').toNat default).2.2))))] _ ?_) ⟨rfl, rfl, rfl, rfl, rfl, rfl, trivial⟩
                  refine wc_cond (b := ((decide ((((scanR text).1).getD (i_1').toNat default).2.2 = [])) || (decide (((text.drop ((((scanR text).1).getD (i_1').toNat default).2.1).toNat).length : Int) < (((((scanR text).1).getD (i_1').toNat default).2.2).length : Int)))) || (!decide ((text.drop ((((scanR text).1).getD (i_1').toNat default).2.1).toNat).take (((((scanR text).1).getD (i_1').toNat default).2.2).length : Int).toNat = (((scanR text).1).getD (i_1').toNat default).2.2))) rfl (fun hb => ?_) (fun hb => ?_)
                  · replace h := if_T h hb
                    refine wc_seq (fun K0_300' hK_300' => ?_)
                    refine wc_region ?_
                    refine WL.val (OV.assign rfl) rfl rfl rfl ?_
                    refine WL.nil ?_
                    refine KX.go (hK_300' [(2, Value.bool false)] _ ?_) ⟨rfl, trivial⟩
                    refine wc_ret ?_
                    exact hE.ret [] rfl rfl (.inl ⟨_, h, rfl⟩) (ResV.of1 rfl (RV.tmp rfl))
                  · replace h := if_F h hb
                    refine wc_skip ?_
                    refine KX.go (hK_296' [(0, st text), (3, w), (5, Value.int .i64 ((((scanR text).1).getD (i_1').toNat default).2.1)), (6, Value.int .i64 i_1'), (7, Value.pointer (some ⟨b_6', 0, none⟩))] _ ?_) ⟨rfl, rfl, rfl, rfl, rfl, trivial⟩
                    refine wc_region ?_
                    refine WL.val (OV.move rfl) rfl rfl rfl ?_
                    refine WL.val (OV.fieldAddr0 rfl tf_field_34_2) rfl rfl rfl ?_
                    refine WL.val (OV.load rfl (At.own 0 rfl) rfl tf_scal_9) rfl rfl rfl ?_
                    refine WL.val (OV.len rfl tf_str_9) rfl rfl rfl ?_
                    obtain ⟨o_240', h⟩ := h
                    refine WL.val (OV.add rfl rfl o_240') rfl rfl rfl ?_
                    refine WL.val (OV.assign rfl) rfl rfl rfl ?_
                    refine WL.nil ?_
                    exact KX.goH (hK_284' (((((scanR text).1).getD (i_1').toNat default).2.1) + (((((scanR text).1).getD (i_1').toNat default).2.2).length : Int)) h) ⟨rfl, rfl, rfl, rfl, trivial⟩ [1] rfl rfl
                · replace h := if_F h hb
                  refine wc_seq (fun K0_301' hK_301' => ?_)
                  refine wc_region ?_
                  refine WL.val (OV.eql rfl rfl) rfl rfl rfl ?_
                  refine WL.val (OV.assign rfl) rfl rfl rfl ?_
                  refine WL.nil ?_
                  refine KX.go (hK_301' [(0, st text), (3, w), (5, Value.int .i64 ((((scanR text).1).getD (i_1').toNat default).2.1)), (6, Value.int .i64 i_1'), (7, Value.pointer (some ⟨b_6', 0, none⟩)), (8, st (text.drop ((((scanR text).1).getD (i_1').toNat default).2.1).toNat)), (79, Value.int .i64 ((((scanR text).1).getD (i_1').toNat default).1)), (114, Value.bool (decide ((((scanR text).1).getD (i_1').toNat default).1 = 3)))] _ ?_) ⟨rfl, rfl, rfl, rfl, rfl, rfl, rfl, rfl, trivial⟩
                  refine wc_cond (b := decide ((((scanR text).1).getD (i_1').toNat default).1 = 3)) rfl (fun hb => ?_) (fun hb => ?_)
                  · replace h := if_T h hb
                    refine wc_seq (fun K0_302' hK_302' => ?_)
                    refine wc_seq (fun K0_303' hK_303' => ?_)
                    refine wc_draw_all [] tf_mixed (by kernel_rfl) rfl (fun T_11' hT_11' => ?_)
                    refine FL.val (fun _ => OV.move rfl) rfl (fun _ => rfl) rfl rfl ?_
                    refine FL.val (fun _ => OV.len rfl tf_str_9) rfl (fun _ => rfl) rfl rfl ?_
                    refine FL.val (fun _ => OV.fieldAddr0 rfl tf_field_34_2) rfl (fun _ => rfl) rfl rfl ?_
                    refine FL.val (fun _ => OV.load rfl (At.own 0 rfl) rfl tf_scal_9) rfl (fun _ => rfl) rfl rfl ?_
                    refine FL.val (fun _ => OV.len rfl tf_str_9) rfl (fun _ => rfl) rfl rfl ?_
                    obtain ⟨o_241', h⟩ := h
                    refine FL.val (fun _ => OV.add rfl rfl o_241') rfl (fun _ => rfl) rfl rfl ?_
                    refine FL.val (fun _ => OV.lss rfl rfl) rfl (fun _ => rfl) rfl rfl ?_
                    refine FL.val (fun _ => OV.move rfl) rfl (fun _ => rfl) rfl rfl ?_
                    obtain ⟨o_243', h⟩ := h
                    refine FL.cut 4 rfl (fun _ => [(0, st text), (3, w), (5, Value.int .i64 ((((scanR text).1).getD (i_1').toNat default).2.1)), (6, Value.int .i64 i_1'), (7, Value.pointer (some ⟨b_6', 0, none⟩)), (8, st (text.drop ((((scanR text).1).getD (i_1').toNat default).2.1).toNat)), (127, Value.bool ((decide (((text.drop ((((scanR text).1).getD (i_1').toNat default).2.1).toNat).length : Int) < (((((scanR text).1).getD (i_1').toNat default).2.2).length : Int) + 2)) || (!decide ((((text.drop ((((scanR text).1).getD (i_1').toNat default).2.1).toNat).getD (0 : Int).toNat 0).toNat : Int) = 47))))]) ?_ (fun K0_304' hK_304' => ?_)
                    rotate_left
                    · refine FL.split (decide (((text.drop ((((scanR text).1).getD (i_1').toNat default).2.1).toNat).length : Int) < (((((scanR text).1).getD (i_1').toNat default).2.2).length : Int) + 2)) (fun hb => ?_) (fun hb => ?_)
                      · refine FL.set 123 (fun _ => rfl) (congrArg Value.bool hb) ?_
                        refine FL.skip rfl (fun _ => rfl) rfl rfl ?_
                        refine FL.skip rfl (fun _ => rfl) rfl rfl ?_
                        refine FL.skip rfl (fun _ => rfl) rfl rfl ?_
                        refine FL.val (fun _ => OV.pickT rfl rfl) rfl (fun _ => rfl) rfl rfl ?_
                        refine FL.set 127 (fun _ => rfl) (oT (v := !decide ((((text.drop ((((scanR text).1).getD (i_1').toNat default).2.1).toNat).getD (0 : Int).toNat 0).toNat : Int) = 47)) hb) ?_
                        exact FL.weak (L' := fun _ => [(0, st text), (3, w), (5, Value.int .i64 ((((scanR text).1).getD (i_1').toNat default).2.1)), (6, Value.int .i64 i_1'), (7, Value.pointer (some ⟨b_6', 0, none⟩)), (8, st (text.drop ((((scanR text).1).getD (i_1').toNat default).2.1).toNat)), (127, Value.bool ((decide (((text.drop ((((scanR text).1).getD (i_1').toNat default).2.1).toNat).length : Int) < (((((scanR text).1).getD (i_1').toNat default).2.2).length : Int) + 2)) || (!decide ((((text.drop ((((scanR text).1).getD (i_1').toNat default).2.1).toNat).getD (0 : Int).toNat 0).toNat : Int) = 47))))]) (fun _ => ⟨rfl, rfl, rfl, rfl, rfl, rfl, rfl, trivial⟩) (FL.nil hK_304')
                      · have o_242' := o_243' hb
                        refine FL.set 123 (fun _ => rfl) (congrArg Value.bool hb) ?_
                        refine FL.val (fun _ => OV.move rfl) rfl (fun _ => rfl) rfl rfl ?_
                        refine FL.val (fun _ => OV.index rfl rfl tf_str_9 o_242') rfl (fun _ => rfl) rfl rfl ?_
                        refine FL.val (fun _ => OV.neq rfl rfl) rfl (fun _ => rfl) rfl rfl ?_
                        refine FL.val (fun _ => OV.pickF rfl rfl) rfl (fun _ => rfl) rfl rfl ?_
                        refine FL.set 127 (fun _ => rfl) (oF (v := !decide ((((text.drop ((((scanR text).1).getD (i_1').toNat default).2.1).toNat).getD (0 : Int).toNat 0).toNat : Int) = 47)) hb) ?_
                        exact FL.weak (L' := fun _ => [(0, st text), (3, w), (5, Value.int .i64 ((((scanR text).1).getD (i_1').toNat default).2.1)), (6, Value.int .i64 i_1'), (7, Value.pointer (some ⟨b_6', 0, none⟩)), (8, st (text.drop ((((scanR text).1).getD (i_1').toNat default).2.1).toNat)), (127, Value.bool ((decide (((text.drop ((((scanR text).1).getD (i_1').toNat default).2.1).toNat).length : Int) < (((((scanR text).1).getD (i_1').toNat default).2.2).length : Int) + 2)) || (!decide ((((text.drop ((((scanR text).1).getD (i_1').toNat default).2.1).toNat).getD (0 : Int).toNat 0).toNat : Int) = 47))))]) (fun _ => ⟨rfl, rfl, rfl, rfl, rfl, rfl, rfl, trivial⟩) (FL.nil hK_304')
                    refine FL.val (fun _ => OV.move rfl) rfl (fun _ => rfl) rfl rfl ?_
                    obtain ⟨o_246', h⟩ := h
                    refine FL.cut 10 rfl (fun _ => [(0, st text), (3, w), (5, Value.int .i64 ((((scanR text).1).getD (i_1').toNat default).2.1)), (6, Value.int .i64 i_1'), (7, Value.pointer (some ⟨b_6', 0, none⟩)), (8, st (text.drop ((((scanR text).1).getD (i_1').toNat default).2.1).toNat)), (138, Value.bool (((decide (((text.drop ((((scanR text).1).getD (i_1').toNat default).2.1).toNat).length : Int) < (((((scanR text).1).getD (i_1').toNat default).2.2).length : Int) + 2)) || (!decide ((((text.drop ((((scanR text).1).getD (i_1').toNat default).2.1).toNat).getD (0 : Int).toNat 0).toNat : Int) = 47))) || (!decide (((text.drop ((((scanR text).1).getD (i_1').toNat default).2.1).toNat).drop (1 : Int).toNat).take (((((((scanR text).1).getD (i_1').toNat default).2.2).length : Int) + 1).toNat - (1 : Int).toNat) = (((scanR text).1).getD (i_1').toNat default).2.2))))]) ?_ (fun K0_305' hK_305' => ?_)
                    rotate_left
                    · refine FL.split ((decide (((text.drop ((((scanR text).1).getD (i_1').toNat default).2.1).toNat).length : Int) < (((((scanR text).1).getD (i_1').toNat default).2.2).length : Int) + 2)) || (!decide ((((text.drop ((((scanR text).1).getD (i_1').toNat default).2.1).toNat).getD (0 : Int).toNat 0).toNat : Int) = 47))) (fun hb => ?_) (fun hb => ?_)
                      · refine FL.set 128 (fun _ => rfl) (congrArg Value.bool hb) ?_
                        refine FL.skip rfl (fun _ => rfl) rfl rfl ?_
                        refine FL.skip rfl (fun _ => rfl) rfl rfl ?_
                        refine FL.skip rfl (fun _ => rfl) rfl rfl ?_
                        refine FL.skip rfl (fun _ => rfl) rfl rfl ?_
                        refine FL.skip rfl (fun _ => rfl) rfl rfl ?_
                        refine FL.skip rfl (fun _ => rfl) rfl rfl ?_
                        refine FL.skip rfl (fun _ => rfl) rfl rfl ?_
                        refine FL.skip rfl (fun _ => rfl) rfl rfl ?_
                        refine FL.skip rfl (fun _ => rfl) rfl rfl ?_
                        refine FL.val (fun _ => OV.pickT rfl rfl) rfl (fun _ => rfl) rfl rfl ?_
                        refine FL.set 138 (fun _ => rfl) (oT (v := !decide (((text.drop ((((scanR text).1).getD (i_1').toNat default).2.1).toNat).drop (1 : Int).toNat).take (((((((scanR text).1).getD (i_1').toNat default).2.2).length : Int) + 1).toNat - (1 : Int).toNat) = (((scanR text).1).getD (i_1').toNat default).2.2)) hb) ?_
                        exact FL.weak (L' := fun _ => [(0, st text), (3, w), (5, Value.int .i64 ((((scanR text).1).getD (i_1').toNat default).2.1)), (6, Value.int .i64 i_1'), (7, Value.pointer (some ⟨b_6', 0, none⟩)), (8, st (text.drop ((((scanR text).1).getD (i_1').toNat default).2.1).toNat)), (138, Value.bool (((decide (((text.drop ((((scanR text).1).getD (i_1').toNat default).2.1).toNat).length : Int) < (((((scanR text).1).getD (i_1').toNat default).2.2).length : Int) + 2)) || (!decide ((((text.drop ((((scanR text).1).getD (i_1').toNat default).2.1).toNat).getD (0 : Int).toNat 0).toNat : Int) = 47))) || (!decide (((text.drop ((((scanR text).1).getD (i_1').toNat default).2.1).toNat).drop (1 : Int).toNat).take (((((((scanR text).1).getD (i_1').toNat default).2.2).length : Int) + 1).toNat - (1 : Int).toNat) = (((scanR text).1).getD (i_1').toNat default).2.2))))]) (fun _ => ⟨rfl, rfl, rfl, rfl, rfl, rfl, rfl, trivial⟩) (FL.nil hK_305')
                      · obtain ⟨o_244', o_245'⟩ := o_246' hb
                        refine FL.set 128 (fun _ => rfl) (congrArg Value.bool hb) ?_
                        refine FL.val (fun _ => OV.move rfl) rfl (fun _ => rfl) rfl rfl ?_
                        refine FL.val (fun _ => OV.fieldAddr0 rfl tf_field_34_2) rfl (fun _ => rfl) rfl rfl ?_
                        refine FL.val (fun _ => OV.load rfl (At.own 0 rfl) rfl tf_scal_9) rfl (fun _ => rfl) rfl rfl ?_
                        refine FL.val (fun _ => OV.len rfl tf_str_9) rfl (fun _ => rfl) rfl rfl ?_
                        refine FL.val (fun _ => OV.add rfl rfl o_244') rfl (fun _ => rfl) rfl rfl ?_
                        refine FL.val (fun _ => OV.sliceS rfl rfl rfl tf_str_9 o_245') rfl (fun _ => rfl) rfl rfl ?_
                        refine FL.val (fun _ => OV.fieldAddr0 rfl tf_field_34_2) rfl (fun _ => rfl) rfl rfl ?_
                        refine FL.val (fun _ => OV.load rfl (At.own 0 rfl) rfl tf_scal_9) rfl (fun _ => rfl) rfl rfl ?_
                        refine FL.val (fun _ => OV.neqS rfl rfl) rfl (fun _ => rfl) rfl rfl ?_
                        refine FL.val (fun _ => OV.pickF rfl rfl) rfl (fun _ => rfl) rfl rfl ?_
                        refine FL.set 138 (fun _ => rfl) (oF (v := !decide (((text.drop ((((scanR text).1).getD (i_1').toNat default).2.1).toNat).drop (1 : Int).toNat).take (((((((scanR text).1).getD (i_1').toNat default).2.2).length : Int) + 1).toNat - (1 : Int).toNat) = (((scanR text).1).getD (i_1').toNat default).2.2)) hb) ?_
                        exact FL.weak (L' := fun _ => [(0, st text), (3, w), (5, Value.int .i64 ((((scanR text).1).getD (i_1').toNat default).2.1)), (6, Value.int .i64 i_1'), (7, Value.pointer (some ⟨b_6', 0, none⟩)), (8, st (text.drop ((((scanR text).1).getD (i_1').toNat default).2.1).toNat)), (138, Value.bool (((decide (((text.drop ((((scanR text).1).getD (i_1').toNat default).2.1).toNat).length : Int) < (((((scanR text).1).getD (i_1').toNat default).2.2).length : Int) + 2)) || (!decide ((((text.drop ((((scanR text).1).getD (i_1').toNat default).2.1).toNat).getD (0 : Int).toNat 0).toNat : Int) = 47))) || (!decide (((text.drop ((((scanR text).1).getD (i_1').toNat default).2.1).toNat).drop (1 : Int).toNat).take (((((((scanR text).1).getD (i_1').toNat default).2.2).length : Int) + 1).toNat - (1 : Int).toNat) = (((scanR text).1).getD (i_1').toNat default).2.2))))]) (fun _ => ⟨rfl, rfl, rfl, rfl, rfl, rfl, rfl, trivial⟩) (FL.nil hK_305')
                    refine FL.val (fun _ => OV.move rfl) rfl (fun _ => rfl) rfl rfl ?_
                    obtain ⟨o_249', h⟩ := h
                    refine FL.cut 8 rfl (fun _ => [(0, st text), (3, w), (5, Value.int .i64 ((((scanR text).1).getD (i_1').toNat default).2.1)), (6, Value.int .i64 i_1'), (7, Value.pointer (some ⟨b_6', 0, none⟩)), (147, Value.bool ((((decide (((text.drop ((((scanR text).1).getD (i_1').toNat default).2.1).toNat).length : Int) < (((((scanR text).1).getD (i_1').toNat default).2.2).length : Int) + 2)) || (!decide ((((text.drop ((((scanR text).1).getD (i_1').toNat default).2.1).toNat).getD (0 : Int).toNat 0).toNat : Int) = 47))) || (!decide (((text.drop ((((scanR text).1).getD (i_1').toNat default).2.1).toNat).drop (1 : Int).toNat).take (((((((scanR text).1).getD (i_1').toNat default).2.2).length : Int) + 1).toNat - (1 : Int).toNat) = (((scanR text).1).getD (i_1').toNat default).2.2))) || (!decide ((((text.drop ((((scanR text).1).getD (i_1').toNat default).2.1).toNat).getD ((((((scanR text).1).getD (i_1').toNat default).2.2).length : Int) + 1).toNat 0).toNat : Int) = 47))))]) ?_ (fun K0_306' hK_306' => ?_)
                    rotate_left
                    · refine FL.split (((decide (((text.drop ((((scanR text).1).getD (i_1').toNat default).2.1).toNat).length : Int) < (((((scanR text).1).getD (i_1').toNat default).2.2).length : Int) + 2)) || (!decide ((((text.drop ((((scanR text).1).getD (i_1').toNat default).2.1).toNat).getD (0 : Int).toNat 0).toNat : Int) = 47))) || (!decide (((text.drop ((((scanR text).1).getD (i_1').toNat default).2.1).toNat).drop (1 : Int).toNat).take (((((((scanR text).1).getD (i_1').toNat default).2.2).length : Int) + 1).toNat - (1 : Int).toNat) = (((scanR text).1).getD (i_1').toNat default).2.2))) (fun hb => ?_) (fun hb => ?_)
                      · refine FL.set 139 (fun _ => rfl) (congrArg Value.bool hb) ?_
                        refine FL.skip rfl (fun _ => rfl) rfl rfl ?_
                        refine FL.skip rfl (fun _ => rfl) rfl rfl ?_
                        refine FL.skip rfl (fun _ => rfl) rfl rfl ?_
                        refine FL.skip rfl (fun _ => rfl) rfl rfl ?_
                        refine FL.skip rfl (fun _ => rfl) rfl rfl ?_
                        refine FL.skip rfl (fun _ => rfl) rfl rfl ?_
                        refine FL.skip rfl (fun _ => rfl) rfl rfl ?_
                        refine FL.val (fun _ => OV.pickT rfl rfl) rfl (fun _ => rfl) rfl rfl ?_
                        refine FL.set 147 (fun _ => rfl) (oT (v := !decide ((((text.drop ((((scanR text).1).getD (i_1').toNat default).2.1).toNat).getD ((((((scanR text).1).getD (i_1').toNat default).2.2).length : Int) + 1).toNat 0).toNat : Int) = 47)) hb) ?_
                        exact FL.weak (L' := fun _ => [(0, st text), (3, w), (5, Value.int .i64 ((((scanR text).1).getD (i_1').toNat default).2.1)), (6, Value.int .i64 i_1'), (7, Value.pointer (some ⟨b_6', 0, none⟩)), (147, Value.bool ((((decide (((text.drop ((((scanR text).1).getD (i_1').toNat default).2.1).toNat).length : Int) < (((((scanR text).1).getD (i_1').toNat default).2.2).length : Int) + 2)) || (!decide ((((text.drop ((((scanR text).1).getD (i_1').toNat default).2.1).toNat).getD (0 : Int).toNat 0).toNat : Int) = 47))) || (!decide (((text.drop ((((scanR text).1).getD (i_1').toNat default).2.1).toNat).drop (1 : Int).toNat).take (((((((scanR text).1).getD (i_1').toNat default).2.2).length : Int) + 1).toNat - (1 : Int).toNat) = (((scanR text).1).getD (i_1').toNat default).2.2))) || (!decide ((((text.drop ((((scanR text).1).getD (i_1').toNat default).2.1).toNat).getD ((((((scanR text).1).getD (i_1').toNat default).2.2).length : Int) + 1).toNat 0).toNat : Int) = 47))))]) (fun _ => ⟨rfl, rfl, rfl, rfl, rfl, rfl, trivial⟩) (FL.nil hK_306')
                      · obtain ⟨o_247', o_248'⟩ := o_249' hb
                        refine FL.set 139 (fun _ => rfl) (congrArg Value.bool hb) ?_
                        refine FL.val (fun _ => OV.move rfl) rfl (fun _ => rfl) rfl rfl ?_
                        refine FL.val (fun _ => OV.fieldAddr0 rfl tf_field_34_2) rfl (fun _ => rfl) rfl rfl ?_
                        refine FL.val (fun _ => OV.load rfl (At.own 0 rfl) rfl tf_scal_9) rfl (fun _ => rfl) rfl rfl ?_
                        refine FL.val (fun _ => OV.len rfl tf_str_9) rfl (fun _ => rfl) rfl rfl ?_
                        refine FL.val (fun _ => OV.add rfl rfl o_247') rfl (fun _ => rfl) rfl rfl ?_
                        refine FL.val (fun _ => OV.index rfl rfl tf_str_9 o_248') rfl (fun _ => rfl) rfl rfl ?_
                        refine FL.val (fun _ => OV.neq rfl rfl) rfl (fun _ => rfl) rfl rfl ?_
                        refine FL.val (fun _ => OV.pickF rfl rfl) rfl (fun _ => rfl) rfl rfl ?_
                        refine FL.set 147 (fun _ => rfl) (oF (v := !decide ((((text.drop ((((scanR text).1).getD (i_1').toNat default).2.1).toNat).getD ((((((scanR text).1).getD (i_1').toNat default).2.2).length : Int) + 1).toNat 0).toNat : Int) = 47)) hb) ?_
                        exact FL.weak (L' := fun _ => [(0, st text), (3, w), (5, Value.int .i64 ((((scanR text).1).getD (i_1').toNat default).2.1)), (6, Value.int .i64 i_1'), (7, Value.pointer (some ⟨b_6', 0, none⟩)), (147, Value.bool ((((decide (((text.drop ((((scanR text).1).getD (i_1').toNat default).2.1).toNat).length : Int) < (((((scanR text).1).getD (i_1').toNat default).2.2).length : Int) + 2)) || (!decide ((((text.drop ((((scanR text).1).getD (i_1').toNat default).2.1).toNat).getD (0 : Int).toNat 0).toNat : Int) = 47))) || (!decide (((text.drop ((((scanR text).1).getD (i_1').toNat default).2.1).toNat).drop (1 : Int).toNat).take (((((((scanR text).1).getD (i_1').toNat default).2.2).length : Int) + 1).toNat - (1 : Int).toNat) = (((scanR text).1).getD (i_1').toNat default).2.2))) || (!decide ((((text.drop ((((scanR text).1).getD (i_1').toNat default).2.1).toNat).getD ((((((scanR text).1).getD (i_1').toNat default).2.2).length : Int) + 1).toNat 0).toNat : Int) = 47))))]) (fun _ => ⟨rfl, rfl, rfl, rfl, rfl, rfl, trivial⟩) (FL.nil hK_306')
                    refine FL.weak (L' := fun _ => [(0, st text), (3, w), (5, Value.int .i64 ((((scanR text).1).getD (i_1').toNat default).2.1)), (6, Value.int .i64 i_1'), (7, Value.pointer (some ⟨b_6', 0, none⟩)), (147, Value.bool ((((decide (((text.drop ((((scanR text).1).getD (i_1').toNat default).2.1).toNat).length : Int) < (((((scanR text).1).getD (i_1').toNat default).2.2).length : Int) + 2)) || (!decide ((((text.drop ((((scanR text).1).getD (i_1').toNat default).2.1).toNat).getD (0 : Int).toNat 0).toNat : Int) = 47))) || (!decide (((text.drop ((((scanR text).1).getD (i_1').toNat default).2.1).toNat).drop (1 : Int).toNat).take (((((((scanR text).1).getD (i_1').toNat default).2.2).length : Int) + 1).toNat - (1 : Int).toNat) = (((scanR text).1).getD (i_1').toNat default).2.2))) || (!decide ((((text.drop ((((scanR text).1).getD (i_1').toNat default).2.1).toNat).getD ((((((scanR text).1).getD (i_1').toNat default).2.2).length : Int) + 1).toNat 0).toNat : Int) = 47))))]) (fun _ => ⟨rfl, rfl, rfl, rfl, rfl, rfl, trivial⟩) (FL.nil (hT_11' (fun _ => [(0, st text), (3, w), (5, Value.int .i64 ((((scanR text).1).getD (i_1').toNat default).2.1)), (6, Value.int .i64 i_1'), (7, Value.pointer (some ⟨b_6', 0, none⟩)), (147, Value.bool ((((decide (((text.drop ((((scanR text).1).getD (i_1').toNat default).2.1).toNat).length : Int) < (((((scanR text).1).getD (i_1').toNat default).2.2).length : Int) + 2)) || (!decide ((((text.drop ((((scanR text).1).getD (i_1').toNat default).2.1).toNat).getD (0 : Int).toNat 0).toNat : Int) = 47))) || (!decide (((text.drop ((((scanR text).1).getD (i_1').toNat default).2.1).toNat).drop (1 : Int).toNat).take (((((((scanR text).1).getD (i_1').toNat default).2.2).length : Int) + 1).toNat - (1 : Int).toNat) = (((scanR text).1).getD (i_1').toNat default).2.2))) || (!decide ((((text.drop ((((scanR text).1).getD (i_1').toNat default).2.1).toNat).getD ((((((scanR text).1).getD (i_1').toNat default).2.2).length : Int) + 1).toNat 0).toNat : Int) = 47))))]) (fun _ => ?_)))
                    refine KX.go (hK_303' [(0, st text), (3, w), (5, Value.int .i64 ((((scanR text).1).getD (i_1').toNat default).2.1)), (6, Value.int .i64 i_1'), (7, Value.pointer (some ⟨b_6', 0, none⟩)), (147, Value.bool ((((decide (((text.drop ((((scanR text).1).getD (i_1').toNat default).2.1).toNat).length : Int) < (((((scanR text).1).getD (i_1').toNat default).2.2).length : Int) + 2)) || (!decide ((((text.drop ((((scanR text).1).getD (i_1').toNat default).2.1).toNat).getD (0 : Int).toNat 0).toNat : Int) = 47))) || (!decide (((text.drop ((((scanR text).1).getD (i_1').toNat default).2.1).toNat).drop (1 : Int).toNat).take (((((((scanR text).1).getD (i_1').toNat default).2.2).length : Int) + 1).toNat - (1 : Int).toNat) = (((scanR text).1).getD (i_1').toNat default).2.2))) || (!decide ((((text.drop ((((scanR text).1).getD (i_1').toNat default).2.1).toNat).getD ((((((scanR text).1).getD (i_1').toNat default).2.2).length : Int) + 1).toNat 0).toNat : Int) = 47))))] _ ?_) ⟨rfl, rfl, rfl, rfl, rfl, rfl, trivial⟩
                    refine wc_cond (b := (((decide (((text.drop ((((scanR text).1).getD (i_1').toNat default).2.1).toNat).length : Int) < (((((scanR text).1).getD (i_1').toNat default).2.2).length : Int) + 2)) || (!decide ((((text.drop ((((scanR text).1).getD (i_1').toNat default).2.1).toNat).getD (0 : Int).toNat 0).toNat : Int) = 47))) || (!decide (((text.drop ((((scanR text).1).getD (i_1').toNat default).2.1).toNat).drop (1 : Int).toNat).take (((((((scanR text).1).getD (i_1').toNat default).2.2).length : Int) + 1).toNat - (1 : Int).toNat) = (((scanR text).1).getD (i_1').toNat default).2.2))) || (!decide ((((text.drop ((((scanR text).1).getD (i_1').toNat default).2.1).toNat).getD ((((((scanR text).1).getD (i_1').toNat default).2.2).length : Int) + 1).toNat 0).toNat : Int) = 47))) rfl (fun hb => ?_) (fun hb => ?_)
                    · replace h := if_T h hb
                      refine wc_seq (fun K0_307' hK_307' => ?_)
                      refine wc_region ?_
                      refine WL.val (OV.assign rfl) rfl rfl rfl ?_
                      refine WL.nil ?_
                      refine KX.go (hK_307' [(2, Value.bool false)] _ ?_) ⟨rfl, trivial⟩
                      refine wc_ret ?_
                      exact hE.ret [] rfl rfl (.inl ⟨_, h, rfl⟩) (ResV.of1 rfl (RV.tmp rfl))
                    · replace h := if_F h hb
                      refine wc_skip ?_
                      refine KX.go (hK_302' [(0, st text), (3, w), (5, Value.int .i64 ((((scanR text).1).getD (i_1').toNat default).2.1)), (6, Value.int .i64 i_1'), (7, Value.pointer (some ⟨b_6', 0, none⟩))] _ ?_) ⟨rfl, rfl, rfl, rfl, rfl, trivial⟩
                      refine wc_region ?_
                      refine WL.val (OV.move rfl) rfl rfl rfl ?_
                      refine WL.val (OV.fieldAddr0 rfl tf_field_34_2) rfl rfl rfl ?_
                      refine WL.val (OV.load rfl (At.own 0 rfl) rfl tf_scal_9) rfl rfl rfl ?_
                      refine WL.val (OV.len rfl tf_str_9) rfl rfl rfl ?_
                      obtain ⟨o_250', h⟩ := h
                      refine WL.val (OV.add rfl rfl o_250') rfl rfl rfl ?_
                      obtain ⟨o_251', h⟩ := h
                      refine WL.val (OV.add rfl rfl o_251') rfl rfl rfl ?_
                      refine WL.val (OV.assign rfl) rfl rfl rfl ?_
                      refine WL.nil ?_
                      exact KX.goH (hK_284' (((((scanR text).1).getD (i_1').toNat default).2.1) + ((((((scanR text).1).getD (i_1').toNat default).2.2).length : Int) + 2)) h) ⟨rfl, rfl, rfl, rfl, trivial⟩ [1] rfl rfl
                  · replace h := if_F h hb
                    refine wc_seq (fun K0_308' hK_308' => ?_)
                    refine wc_region ?_
                    refine WL.val (OV.eql rfl rfl) rfl rfl rfl ?_
                    refine WL.val (OV.assign rfl) rfl rfl rfl ?_
                    refine WL.nil ?_
                    refine KX.go (hK_308' [(0, st text), (3, w), (5, Value.int .i64 ((((scanR text).1).getD (i_1').toNat default).2.1)), (6, Value.int .i64 i_1'), (8, st (text.drop ((((scanR text).1).getD (i_1').toNat default).2.1).toNat)), (154, Value.bool (decide ((((scanR text).1).getD (i_1').toNat default).1 = 2)))] _ ?_) ⟨rfl, rfl, rfl, rfl, rfl, rfl, trivial⟩
                    refine wc_cond (b := decide ((((scanR text).1).getD (i_1').toNat default).1 = 2)) rfl (fun hb => ?_) (fun hb => ?_)
                    · replace h := if_T h hb
                      refine wc_seq (fun K0_309' hK_309' => ?_)
                      refine wc_region ?_
                      refine WL.val (OV.assign rfl) rfl rfl rfl ?_
                      refine WL.nil ?_
                      refine KX.go (hK_309' [(0, st text), (3, w), (5, Value.int .i64 ((((scanR text).1).getD (i_1').toNat default).2.1)), (6, Value.int .i64 i_1'), (8, st (text.drop ((((scanR text).1).getD (i_1').toNat default).2.1).toNat)), (9, Value.int .i64 1)] _ ?_) ⟨rfl, rfl, rfl, rfl, rfl, rfl, trivial⟩
                      refine wc_seq (fun K0_310' hK_310' => ?_)
                      refine wc_block ?_
                      refine WC.pick (H' := [HA.row w 34 3 ((scanR text).1).length (((scanR text).1).flatMap tokC)]) [1] rfl rfl ?_
                      obtain ⟨Inv_6', mu_6', h0_6', hr_6'⟩ := h
                      refine wc_loop (S := Int) (fun σ => Inv_6' σ) (fun σ => mu_6' σ) (fun σ => [(0, st text), (3, w), (5, Value.int .i64 ((((scanR text).1).getD (i_1').toNat default).2.1)), (6, Value.int .i64 i_1'), (8, st (text.drop ((((scanR text).1).getD (i_1').toNat default).2.1).toNat)), (9, Value.int .i64 σ)]) (fun σ => [HA.row w 34 3 ((scanR text).1).length (((scanR text).1).flatMap tokC)]) 1 h0_6' ⟨rfl, rfl, rfl, rfl, rfl, rfl, trivial⟩ rfl ?_
                      rintro k_28' hi K0_323' hK_323'
                      have h := hr_6' k_28' hi
                      show WC _ _ _ _ [(0, st text), (3, w), (5, Value.int .i64 ((((scanR text).1).getD (i_1').toNat default).2.1)), (6, Value.int .i64 i_1'), (8, st (text.drop ((((scanR text).1).getD (i_1').toNat default).2.1).toNat)), (9, Value.int .i64 k_28')] [HA.row w 34 3 ((scanR text).1).length (((scanR text).1).flatMap tokC)]
                      refine wc_seq (fun K0_324' hK_324' => ?_)
                      refine wc_seq (fun K0_325' hK_325' => ?_)
                      refine wc_region ?_
                      refine WL.val (OV.move rfl) rfl rfl rfl ?_
                      refine WL.val (OV.move rfl) rfl rfl rfl ?_
                      refine WL.val (OV.len rfl tf_str_9) rfl rfl rfl ?_
                      refine WL.val (OV.lss rfl rfl) rfl rfl rfl ?_
                      refine WL.val (OV.move rfl) rfl rfl rfl ?_
                      obtain ⟨o_265', h⟩ := h
                      refine WL.cut 5 [(0, st text), (3, w), (5, Value.int .i64 ((((scanR text).1).getD (i_1').toNat default).2.1)), (6, Value.int .i64 i_1'), (8, st (text.drop ((((scanR text).1).getD (i_1').toNat default).2.1).toNat)), (9, Value.int .i64 k_28'), (165, Value.bool ((decide (k_28' < ((text.drop ((((scanR text).1).getD (i_1').toNat default).2.1).toNat).length : Int))) && (!decide ((((text.drop ((((scanR text).1).getD (i_1').toNat default).2.1).toNat).getD k_28'.toNat 0).toNat : Int) = 34))))] ?_ (fun K0_326' hK_326' => ?_)
                      rotate_left
                      · refine WL.split (decide (k_28' < ((text.drop ((((scanR text).1).getD (i_1').toNat default).2.1).toNat).length : Int))) (fun hb => ?_) (fun hb => ?_)
                        · have o_264' := o_265' hb
                          refine WL.set 160 rfl (congrArg Value.bool hb) ?_
                          refine WL.val (OV.move rfl) rfl rfl rfl ?_
                          refine WL.val (OV.move rfl) rfl rfl rfl ?_
                          refine WL.val (OV.index rfl rfl tf_str_9 o_264') rfl rfl rfl ?_
                          refine WL.val (OV.neq rfl rfl) rfl rfl rfl ?_
                          refine WL.val (OV.pickT rfl rfl) rfl rfl rfl ?_
                          refine WL.set 165 rfl (bT (v := !decide ((((text.drop ((((scanR text).1).getD (i_1').toNat default).2.1).toNat).getD k_28'.toNat 0).toNat : Int) = 34)) hb) ?_
                          exact WL.end_ (KX.go hK_326' ⟨rfl, rfl, rfl, rfl, rfl, rfl, rfl, trivial⟩)
                        · refine WL.set 160 rfl (congrArg Value.bool hb) ?_
                          refine WL.skip rfl rfl rfl ?_
                          refine WL.skip rfl rfl rfl ?_
                          refine WL.skip rfl rfl rfl ?_
                          refine WL.skip rfl rfl rfl ?_
                          refine WL.val (OV.pickF rfl rfl) rfl rfl rfl ?_
                          refine WL.set 165 rfl (bF (v := !decide ((((text.drop ((((scanR text).1).getD (i_1').toNat default).2.1).toNat).getD k_28'.toNat 0).toNat : Int) = 34)) hb) ?_
                          exact WL.end_ (KX.go hK_326' ⟨rfl, rfl, rfl, rfl, rfl, rfl, rfl, trivial⟩)
                      refine WL.nil ?_
                      refine KX.go (hK_325' [(0, st text), (3, w), (5, Value.int .i64 ((((scanR text).1).getD (i_1').toNat default).2.1)), (6, Value.int .i64 i_1'), (8, st (text.drop ((((scanR text).1).getD (i_1').toNat default).2.1).toNat)), (9, Value.int .i64 k_28'), (165, Value.bool ((decide (k_28' < ((text.drop ((((scanR text).1).getD (i_1').toNat default).2.1).toNat).length : Int))) && (!decide ((((text.drop ((((scanR text).1).getD (i_1').toNat default).2.1).toNat).getD k_28'.toNat 0).toNat : Int) = 34))))] _ ?_) ⟨rfl, rfl, rfl, rfl, rfl, rfl, rfl, trivial⟩
                      refine wc_cond (b := (decide (k_28' < ((text.drop ((((scanR text).1).getD (i_1').toNat default).2.1).toNat).length : Int))) && (!decide ((((text.drop ((((scanR text).1).getD (i_1').toNat default).2.1).toNat).getD k_28'.toNat 0).toNat : Int) = 34))) rfl (fun hb => ?_) (fun hb => ?_)
                      · replace h := if_T h hb
                        refine wc_skip ?_
                        refine KX.go (hK_324' [(0, st text), (3, w), (5, Value.int .i64 ((((scanR text).1).getD (i_1').toNat default).2.1)), (6, Value.int .i64 i_1'), (8, st (text.drop ((((scanR text).1).getD (i_1').toNat default).2.1).toNat)), (9, Value.int .i64 k_28')] _ ?_) ⟨rfl, rfl, rfl, rfl, rfl, rfl, trivial⟩
                        refine wc_block ?_
                        obtain ⟨J0_26', hJ_26', h⟩ := h
                        refine wc_seqJ (X := Int) (fun σ => J0_26' σ) (fun σ => [(0, st text), (3, w), (5, Value.int .i64 ((((scanR text).1).getD (i_1').toNat default).2.1)), (6, Value.int .i64 i_1'), (8, st (text.drop ((((scanR text).1).getD (i_1').toNat default).2.1).toNat)), (9, Value.int .i64 σ)]) (fun σ => [HA.row w 34 3 ((scanR text).1).length (((scanR text).1).flatMap tokC)]) ?_ (fun K0_328' hK_328' => ?_)
                        · rintro k_29' hj
                          replace h := hJ_26' k_29' hj
                          show WC _ _ _ _ [(0, st text), (3, w), (5, Value.int .i64 ((((scanR text).1).getD (i_1').toNat default).2.1)), (6, Value.int .i64 i_1'), (8, st (text.drop ((((scanR text).1).getD (i_1').toNat default).2.1).toNat)), (9, Value.int .i64 k_29')] [HA.row w 34 3 ((scanR text).1).length (((scanR text).1).flatMap tokC)]
                          refine wc_region ?_
                          refine WL.val (OV.move rfl) rfl rfl rfl ?_
                          obtain ⟨o_268', h⟩ := h
                          refine WL.val (OV.add rfl rfl o_268') rfl rfl rfl ?_
                          refine WL.val (OV.assign rfl) rfl rfl rfl ?_
                          refine WL.nil ?_
                          exact KX.goH (hK_323' (k_29' + 1) h.1 h.2) ⟨rfl, rfl, rfl, rfl, rfl, rfl, trivial⟩ [0] rfl rfl
                        · skip
                          refine wc_seq (fun K0_329' hK_329' => ?_)
                          refine wc_region ?_
                          refine WL.val (OV.move rfl) rfl rfl rfl ?_
                          refine WL.val (OV.move rfl) rfl rfl rfl ?_
                          obtain ⟨o_269', h⟩ := h
                          refine WL.val (OV.index rfl rfl tf_str_9 o_269') rfl rfl rfl ?_
                          refine WL.val (OV.eql rfl rfl) rfl rfl rfl ?_
                          refine WL.nil ?_
                          refine KX.go (hK_329' [(0, st text), (3, w), (5, Value.int .i64 ((((scanR text).1).getD (i_1').toNat default).2.1)), (6, Value.int .i64 i_1'), (8, st (text.drop ((((scanR text).1).getD (i_1').toNat default).2.1).toNat)), (9, Value.int .i64 k_28'), (169, Value.bool (decide ((((text.drop ((((scanR text).1).getD (i_1').toNat default).2.1).toNat).getD k_28'.toNat 0).toNat : Int) = 92)))] _ ?_) ⟨rfl, rfl, rfl, rfl, rfl, rfl, rfl, trivial⟩
                          refine wc_cond (b := decide ((((text.drop ((((scanR text).1).getD (i_1').toNat default).2.1).toNat).getD k_28'.toNat 0).toNat : Int) = 92)) rfl (fun hb => ?_) (fun hb => ?_)
                          · replace h := if_T h hb
                            refine wc_region ?_
                            refine WL.val (OV.move rfl) rfl rfl rfl ?_
                            obtain ⟨o_270', h⟩ := h
                            refine WL.val (OV.add rfl rfl o_270') rfl rfl rfl ?_
                            refine WL.val (OV.assign rfl) rfl rfl rfl ?_
                            refine WL.nil ?_
                            exact KX.goH (hK_328' (k_28' + 1) h) ⟨rfl, rfl, rfl, rfl, rfl, rfl, trivial⟩ [0] rfl rfl
                          · replace h := if_F h hb
                            refine wc_skip ?_
                            exact KX.goH (hK_328' k_28' h) ⟨rfl, rfl, rfl, rfl, rfl, rfl, trivial⟩ [0] rfl rfl
                      · replace h := if_F h hb
                        refine wc_exit ?_
                        refine KX.go (hK_310' [(0, st text), (3, w), (5, Value.int .i64 ((((scanR text).1).getD (i_1').toNat default).2.1)), (6, Value.int .i64 i_1'), (8, st (text.drop ((((scanR text).1).getD (i_1').toNat default).2.1).toNat)), (9, Value.int .i64 k_28')] _ ?_) ⟨rfl, rfl, rfl, rfl, rfl, rfl, trivial⟩
                        refine wc_seq (fun K0_330' hK_330' => ?_)
                        refine wc_seq (fun K0_331' hK_331' => ?_)
                        refine wc_region ?_
                        refine WL.val (OV.move rfl) rfl rfl rfl ?_
                        obtain ⟨o_271', h⟩ := h
                        refine WL.val (OV.index rfl rfl tf_str_9 o_271') rfl rfl rfl ?_
                        refine WL.val (OV.neq rfl rfl) rfl rfl rfl ?_
                        refine WL.val (OV.move rfl) rfl rfl rfl ?_
                        refine WL.cut 5 [(0, st text), (3, w), (5, Value.int .i64 ((((scanR text).1).getD (i_1').toNat default).2.1)), (6, Value.int .i64 i_1'), (9, Value.int .i64 k_28'), (182, Value.bool ((!decide ((((text.drop ((((scanR text).1).getD (i_1').toNat default).2.1).toNat).getD (0 : Int).toNat 0).toNat : Int) = 34)) || (decide (((text.drop ((((scanR text).1).getD (i_1').toNat default).2.1).toNat).length : Int) ≤ k_28'))))] ?_ (fun K0_332' hK_332' => ?_)
                        rotate_left
                        · refine WL.split (!decide ((((text.drop ((((scanR text).1).getD (i_1').toNat default).2.1).toNat).getD (0 : Int).toNat 0).toNat : Int) = 34)) (fun hb => ?_) (fun hb => ?_)
                          · refine WL.set 177 rfl (congrArg Value.bool hb) ?_
                            refine WL.skip rfl rfl rfl ?_
                            refine WL.skip rfl rfl rfl ?_
                            refine WL.skip rfl rfl rfl ?_
                            refine WL.skip rfl rfl rfl ?_
                            refine WL.val (OV.pickT rfl rfl) rfl rfl rfl ?_
                            refine WL.set 182 rfl (oT (v := decide (((text.drop ((((scanR text).1).getD (i_1').toNat default).2.1).toNat).length : Int) ≤ k_28')) hb) ?_
                            exact WL.end_ (KX.go hK_332' ⟨rfl, rfl, rfl, rfl, rfl, rfl, trivial⟩)
                          · refine WL.set 177 rfl (congrArg Value.bool hb) ?_
                            refine WL.val (OV.move rfl) rfl rfl rfl ?_
                            refine WL.val (OV.move rfl) rfl rfl rfl ?_
                            refine WL.val (OV.len rfl tf_str_9) rfl rfl rfl ?_
                            refine WL.val (OV.geq rfl rfl) rfl rfl rfl ?_
                            refine WL.val (OV.pickF rfl rfl) rfl rfl rfl ?_
                            refine WL.set 182 rfl (oF (v := decide (((text.drop ((((scanR text).1).getD (i_1').toNat default).2.1).toNat).length : Int) ≤ k_28')) hb) ?_
                            exact WL.end_ (KX.go hK_332' ⟨rfl, rfl, rfl, rfl, rfl, rfl, trivial⟩)
                        refine WL.nil ?_
                        refine KX.go (hK_331' [(0, st text), (3, w), (5, Value.int .i64 ((((scanR text).1).getD (i_1').toNat default).2.1)), (6, Value.int .i64 i_1'), (9, Value.int .i64 k_28'), (182, Value.bool ((!decide ((((text.drop ((((scanR text).1).getD (i_1').toNat default).2.1).toNat).getD (0 : Int).toNat 0).toNat : Int) = 34)) || (decide (((text.drop ((((scanR text).1).getD (i_1').toNat default).2.1).toNat).length : Int) ≤ k_28'))))] _ ?_) ⟨rfl, rfl, rfl, rfl, rfl, rfl, trivial⟩
                        refine wc_cond (b := (!decide ((((text.drop ((((scanR text).1).getD (i_1').toNat default).2.1).toNat).getD (0 : Int).toNat 0).toNat : Int) = 34)) || (decide (((text.drop ((((scanR text).1).getD (i_1').toNat default).2.1).toNat).length : Int) ≤ k_28'))) rfl (fun hb => ?_) (fun hb => ?_)
                        · replace h := if_T h hb
                          refine wc_seq (fun K0_333' hK_333' => ?_)
                          refine wc_region ?_
                          refine WL.val (OV.assign rfl) rfl rfl rfl ?_
                          refine WL.nil ?_
                          refine KX.go (hK_333' [(2, Value.bool false)] _ ?_) ⟨rfl, trivial⟩
                          refine wc_ret ?_
                          exact hE.ret [] rfl rfl (.inl ⟨_, h, rfl⟩) (ResV.of1 rfl (RV.tmp rfl))
                        · replace h := if_F h hb
                          refine wc_skip ?_
                          refine KX.go (hK_330' [(0, st text), (3, w), (5, Value.int .i64 ((((scanR text).1).getD (i_1').toNat default).2.1)), (6, Value.int .i64 i_1'), (9, Value.int .i64 k_28')] _ ?_) ⟨rfl, rfl, rfl, rfl, rfl, trivial⟩
                          refine wc_region ?_
                          refine WL.val (OV.move rfl) rfl rfl rfl ?_
                          refine WL.val (OV.move rfl) rfl rfl rfl ?_
                          obtain ⟨o_273', h⟩ := h
                          refine WL.val (OV.add rfl rfl o_273') rfl rfl rfl ?_
                          obtain ⟨o_274', h⟩ := h
                          refine WL.val (OV.add rfl rfl o_274') rfl rfl rfl ?_
                          refine WL.val (OV.assign rfl) rfl rfl rfl ?_
                          refine WL.nil ?_
                          exact KX.goH (hK_284' (((((scanR text).1).getD (i_1').toNat default).2.1) + (k_28' + 1)) h) ⟨rfl, rfl, rfl, rfl, trivial⟩ [0] rfl rfl
                    · replace h := if_F h hb
                      refine wc_seq (fun K0_334' hK_334' => ?_)
                      refine wc_region ?_
                      refine WL.val (OV.move rfl) rfl rfl rfl ?_
                      refine WL.val (OV.move rfl) rfl rfl rfl ?_
                      refine WL.val (OV.lenRow 1 rfl rfl tf_sl_26) rfl rfl rfl ?_
                      obtain ⟨o_275', h⟩ := h
                      refine WL.val (OV.sub rfl rfl o_275') rfl rfl rfl ?_
                      refine WL.val (OV.neq rfl rfl) rfl rfl rfl ?_
                      refine WL.nil ?_
                      refine KX.go (hK_334' [(0, st text), (3, w), (5, Value.int .i64 ((((scanR text).1).getD (i_1').toNat default).2.1)), (6, Value.int .i64 i_1'), (84, Value.bool (!decide (i_1' = (((scanR text).1).length : Int) - 1)))] _ ?_) ⟨rfl, rfl, rfl, rfl, rfl, trivial⟩
                      refine wc_cond (b := !decide (i_1' = (((scanR text).1).length : Int) - 1)) rfl (fun hb => ?_) (fun hb => ?_)
                      · replace h := if_T h hb
                        refine wc_seq (fun K0_335' hK_335' => ?_)
                        refine wc_region ?_
                        refine WL.val (OV.assign rfl) rfl rfl rfl ?_
                        refine WL.nil ?_
                        refine KX.go (hK_335' [(2, Value.bool false)] _ ?_) ⟨rfl, trivial⟩
                        refine wc_ret ?_
                        exact hE.ret [] rfl rfl (.inl ⟨_, h, rfl⟩) (ResV.of1 rfl (RV.tmp rfl))
                      · replace h := if_F h hb
                        refine wc_skip ?_
                        exact KX.goH (hK_284' ((((scanR text).1).getD (i_1').toNat default).2.1) h) ⟨rfl, rfl, rfl, rfl, trivial⟩ [1] rfl rfl
              · skip
                refine wc_seq (fun K0_336' hK_336' => ?_)
                refine wc_region ?_
                refine WL.val (OV.eql rfl rfl) rfl rfl rfl ?_
                refine WL.val (OV.assign rfl) rfl rfl rfl ?_
                refine WL.nil ?_
                refine KX.go (hK_336' [(0, st text), (3, w), (5, Value.int .i64 ((((scanR text).1).getD (i_1').toNat default).2.1)), (6, Value.int .i64 i_1'), (7, Value.pointer (some ⟨b_6', 0, none⟩)), (8, st (text.drop ((((scanR text).1).getD (i_1').toNat default).2.1).toNat)), (79, Value.int .i64 ((((scanR text).1).getD (i_1').toNat default).1)), (85, Value.bool (decide ((((scanR text).1).getD (i_1').toNat default).1 = 1)))] _ ?_) ⟨rfl, rfl, rfl, rfl, rfl, rfl, rfl, rfl, trivial⟩
                refine wc_cond (b := decide ((((scanR text).1).getD (i_1').toNat default).1 = 1)) rfl (fun hb => ?_) (fun hb => ?_)
                · replace h := if_T h hb
                  refine wc_skip ?_
                  exact KX.goH (hK_295' (decide ((((scanR text).1).getD (i_1').toNat default).1 = 1)) h) ⟨rfl, rfl, rfl, rfl, rfl, rfl, rfl, rfl, trivial⟩ [0, 1] rfl rfl
                · replace h := if_F h hb
                  refine wc_region ?_
                  refine WL.val (OV.eql rfl rfl) rfl rfl rfl ?_
                  refine WL.val (OV.assign rfl) rfl rfl rfl ?_
                  refine WL.nil ?_
                  exact KX.goH (hK_295' (decide ((((scanR text).1).getD (i_1').toNat default).1 = 4)) h) ⟨rfl, rfl, rfl, rfl, rfl, rfl, rfl, rfl, trivial⟩ [0, 1] rfl rfl
        · replace h := if_F h hb
          refine wc_exit ?_
          refine KX.go (hK_13' [(0, st text), (5, Value.int .i64 at0_3')] _ ?_) ⟨rfl, rfl, trivial⟩
          refine wc_seq (fun K0_337' hK_337' => ?_)
          refine wc_region ?_
          refine WL.val (OV.move rfl) rfl rfl rfl ?_
          refine WL.val (OV.move rfl) rfl rfl rfl ?_
          refine WL.val (OV.len rfl tf_str_9) rfl rfl rfl ?_
          refine WL.val (OV.eql rfl rfl) rfl rfl rfl ?_
          refine WL.val (OV.assign rfl) rfl rfl rfl ?_
          refine WL.nil ?_
          refine KX.go (hK_337' [(2, Value.bool (decide (at0_3' = (text.length : Int))))] _ ?_) ⟨rfl, trivial⟩
          refine wc_ret ?_
          exact hE.ret [] rfl rfl (.inl ⟨_, h, rfl⟩) (ResV.of1 rfl (RV.tmp rfl))
  · obtain ⟨w, ho⟩ := hS
    cases ho

theorem regexF_piece {t : List UInt8} {fr : Int} : ∀ {n : Nat} {k : Int} {x : List UInt8} {q : Int}, regexF t fr n k = .ok (x, q) → x = cut t (fr + 1) (q - 1) ∧ bt t (q - 1) = 47 ∧ k ≤ q - 1
  | 0, _, _, _, h => by cases h
  | n + 1, k, x, q, h => by
    rw [regexF] at h
    split at h
    · split at h
      · split at h
        · cases h
        · have := regexF_piece h; exact ⟨this.1, this.2.1, by omega⟩
      · split at h
        · cases h
        · split at h
          · rename_i h47
            simp only [Except.ok.injEq, Prod.mk.injEq] at h
            obtain ⟨rfl, rfl⟩ := h
            rw [show k + 1 - 1 = k by omega]
            exact ⟨rfl, h47, Int.le_refl _⟩
          · have := regexF_piece h; exact ⟨this.1, this.2.1, by omega⟩
    · cases h
theorem two_cut {t : List UInt8} {a : Int} (h : 0 ≤ a ∧ a + 1 < t.length) (h1 : bt t a = 62) (h2 : bt t (a + 1) = 62) : ([62, 62] : List UInt8) = cut t a (a + 2) := by
  obtain ⟨x, e1, b1⟩ := drop_bt (t := t) (p := a) ⟨h.1, by omega⟩
  obtain ⟨y, e2, b2⟩ := drop_bt (t := t) (p := a + 1) ⟨by omega, h.2⟩
  unfold cut
  rw [e1, e2, show (a + 2).toNat - a.toNat = 2 by omega]
  have p1 : x = 62 := UInt8.toNat_inj.1 (by have : (62 : UInt8).toNat = 62 := rfl; omega)
  have p2 : y = 62 := UInt8.toNat_inj.1 (by have : (62 : UInt8).toNat = 62 := rfl; omega)
  rw [p1, p2]; rfl
theorem one_piece {t : List UInt8} {a : Int} (hb : 0 ≤ a ∧ a < t.length) {k : Tok} {q : Int} (h : oneM t a = .ok (k, q)) :
    ((k.1 = 1 ∨ k.1 = 4) ∧ k.2.2 = cut t a q) ∨ (k.1 = 3 ∧ bt t a = 47 ∧ k.2.2 = cut t (a + 1) (q - 1) ∧ bt t (q - 1) = 47 ∧ a + 1 ≤ q - 1) ∨ (k.1 = 2 ∧ bt t a = 34 ∧ ∃ x, quotedF t a (t.length + 1) [] (a + 1) = .ok (x, q)) := by
  unfold oneM at h
  split at h
  · split at h
    · cases h
    · simp only [Except.ok.injEq, Prod.mk.injEq] at h
      obtain ⟨rfl, rfl⟩ := h
      exact .inl ⟨.inl rfl, rfl⟩
  · split at h
    · rename_i h34
      unfold quotedM at h
      split at h
      · rename_i x q' he
        simp only [Except.ok.injEq, Prod.mk.injEq] at h
        obtain ⟨rfl, rfl⟩ := h
        exact .inr (.inr ⟨rfl, h34, x, he⟩)
      · cases h
    · split at h
      · rename_i h47
        unfold regexM at h
        split at h
        · rename_i x q' he
          simp only [Except.ok.injEq, Prod.mk.injEq] at h
          obtain ⟨rfl, rfl⟩ := h
          have := regexF_piece he
          exact .inr (.inl ⟨rfl, h47, this⟩)
        · cases h
      · split at h
        · simp only [Except.ok.injEq, Prod.mk.injEq] at h
          obtain ⟨rfl, rfl⟩ := h
          exact .inl ⟨.inr rfl, rfl⟩
        · split at h
          · rename_i h62
            simp only [Except.ok.injEq, Prod.mk.injEq] at h
            obtain ⟨rfl, rfl⟩ := h
            exact .inl ⟨.inr rfl, two_cut ⟨hb.1, h62.1⟩ h62.2.1 h62.2.2⟩
          · cases h
theorem chain_last {t : List UInt8} : ∀ {l : List Tok} {a : Int}, Chain t a l → 0 < l.length ∧ l.getD (l.length - 1) default = (0, (t.length : Int), [])
  | [], _, h => h.elim
  | [k], a, h => by
    rw [Chain] at h
    split at h
    · obtain ⟨q, _, h2⟩ := h; exact h2.elim
    · exact ⟨by simp, h.1⟩
  | k :: k2 :: r, a, h => by
    rw [Chain] at h
    split at h
    · obtain ⟨q, _, h2⟩ := h
      have ih := chain_last h2
      refine ⟨by simp, ?_⟩
      rw [← ih.2]
      simp
    · cases h.2
theorem scanR_fault {t : List UInt8} : ((scanR t).2.1 = 0 → (scanR t).2.2 = 0 ∧ t.length ≤ 4096) ∧ ((scanR t).2.1 ≠ 0 → (scanR t).1 = []) := by
  unfold scanR
  split
  · exact ⟨fun h => by simp at h, fun _ => rfl⟩
  · rename_i h0
    have hg := gapM_bd (t := t) (a := 0) ⟨by omega, by omega⟩
    cases hq : scanF t (t.length + 1) [] (gapM t 0) with
    | ok l => exact ⟨fun _ => ⟨rfl, by omega⟩, fun h => absurd rfl h⟩
    | error e => exact ⟨fun h => absurd h (scanF_err hg.1 hg.2 (by omega) hq), fun _ => rfl⟩
theorem hex_mid {c : Int} (h : ¬ refHex c < 0) : c ≠ 34 ∧ c ≠ 92 := by
  unfold refHex at h
  split at h
  · omega
  · split at h <;> omega
theorem escM_mid {t : List UInt8} {a : Int} (h : (escM t a).2.1 = true) : ∀ m, a + 2 ≤ m → m < (escM t a).2.2 + 1 → bt t m ≠ 34 ∧ bt t m ≠ 92 := by
  have key : ∀ r : Int × Bool × Int, escM t a = r → r.2.1 = true → ∀ m, a + 2 ≤ m → m < r.2.2 + 1 → bt t m ≠ 34 ∧ bt t m ≠ 92 := by
    intro r hr hok m h1 h2
    unfold escM at hr
    simp only at hr
    repeat' split at hr
    all_goals first
      | (subst hr; simp at hok; done)
      | (subst hr; simp only at h2; omega)
      | (subst hr
         rename_i g1 _ g2
         have : m = a + 2 ∨ m = a + 3 := by simp only at h2; omega
         rcases this with rfl | rfl
         · exact hex_mid (by assumption)
         · exact hex_mid (by assumption))
  exact key _ rfl h
theorem tokenPlaces_does (t : List UInt8) : Does Try.prog 5 [st t] [] [] (Ret (.bool true) []) := by
  refine (lplaces_wp t (fun r => r = true) ?_).weak (by rintro o (⟨v, rfl, rfl⟩ | h) <;> first | rfl | exact h.elim)
  unfold lplaces_vc
  obtain ⟨f1, f2⟩ := scanR_fault (t := t)
  by_cases hok : (scanR t).2.1 = 0
  · obtain ⟨hp, hlen⟩ := f1 hok
    have hC : Chain t 0 (scanR t).1 := by
      obtain ⟨ks, e1, e2⟩ := chain_of (t := t) (a := 0) (Int.le_refl _) (by omega) (scanR_ok hok hlen)
      rw [List.nil_append] at e1
      rw [e1]; exact e2
    have hL := scanR_len t
    rw [if_neg (by simp [andAll, hok, hp])]
    generalize (scanR t).1 = l at hC hL ⊢
    obtain ⟨hpos, hlast⟩ := chain_last hC
    have hlast' : l.getD (((l.length : Int) - 1).toNat) default = (0, (t.length : Int), []) := by rw [← hlast]; congr 1; omega
    refine ⟨fun _ => ⟨⟨by omega, by omega⟩, by omega, by omega⟩, ?_⟩
    rw [hlast', if_neg (by simp [andAll]; intro e; subst e; simp at hpos)]
    refine ⟨fun a i => 0 ≤ a ∧ a ≤ t.length ∧ 0 ≤ i ∧ i ≤ l.length ∧ (if i < l.length then Chain t a (l.drop i.toNat) else a = t.length), fun _ i => (l.length - i).toNat, ⟨by omega, by omega, by omega, by omega, by rw [if_pos (by omega)]; exact hC⟩, ?_⟩
    rintro a i ⟨a0, a1, i0, i1, hch⟩
    by_cases hi : i < l.length
    · rw [if_pos (by simpa using hi)]
      rw [if_pos hi] at hch
      have hnat : i.toNat < l.length := by omega
      have hd : l.drop i.toNat = l.getD i.toNat default :: l.drop (i + 1).toNat := by
        rw [List.drop_eq_getElem_cons hnat, show (i + 1).toNat = i.toNat + 1 by omega, List.getD_eq_getElem?_getD, List.getElem?_eq_getElem hnat]; rfl
      rw [hd, Chain] at hch
      have hg := gapM_bd (t := t) (a := a) ⟨a0, a1⟩
      have hbl := blank_gap (t := t) (a := a) ⟨a0, a1⟩
      generalize l.getD i.toNat default = k at hch ⊢
      have hkat : k.2.1 = gapM t a := by
        split at hch
        · obtain ⟨q, ho, _⟩ := hch; exact oneM_at ho
        · rw [hch.1]; show (t.length : Int) = _; omega
      refine ⟨fun v => 0 ≤ v ∧ v ≤ t.length ∧ (if i + 1 < l.length then Chain t v (l.drop (i + 1).toNat) else v = t.length), fun v hv => ⟨⟨by omega, by omega⟩, ⟨hv.1, hv.2.1, by omega, by omega, hv.2.2⟩, by show (l.length - (i + 1)).toNat < (l.length - i).toNat; omega⟩, ⟨i0, hi⟩, fun _ => ⟨⟨a0, by omega, by omega⟩, by simp only [List.length_take, List.length_drop]; omega⟩, ?_⟩
      rw [hkat, hbl, if_neg (by simp; omega)]
      refine ⟨⟨by omega, hg.2⟩, ?_⟩
      by_cases ha : gapM t a < t.length
      · rw [if_pos ha] at hch
        obtain ⟨q, ho, hrest⟩ := hch
        have hb : 0 ≤ gapM t a ∧ gapM t a < t.length := ⟨by omega, ha⟩
        have hq := oneM_ok hb ho
        have hnext : 0 ≤ q ∧ q ≤ t.length ∧ (if i + 1 < l.length then Chain t q (l.drop (i + 1).toNat) else q = t.length) := by
          refine ⟨by omega, hq.2, ?_⟩
          by_cases h3 : i + 1 < l.length
          · rw [if_pos h3]; exact hrest
          · rw [List.drop_eq_nil_of_le (by omega)] at hrest; exact hrest.elim
        generalize gapM t a = g at *
        have hdl : ((t.drop g.toNat).length : Int) = t.length - g := by rw [List.length_drop]; omega
        refine ⟨fun r => r = decide (k.1 = 1 ∨ k.1 = 4), fun r hr => ?_, ?_⟩
        · rcases one_piece hb ho with ⟨hk, hx⟩ | ⟨hk, hb1, hx, hb2, hb3⟩ | ⟨hk, hb1, x, hx⟩
          · have hxl : (k.2.2.length : Int) = q - g := by rw [hx]; exact cut_len ⟨by omega, by omega, hq.2⟩
            have hne : k.2.2 ≠ [] := fun e => by rw [e] at hxl; simp at hxl; omega
            rw [hr, if_pos (by simpa using hk)]
            refine ⟨fun _ => ⟨by omega, by omega⟩, ?_⟩
            have htk : (t.drop g.toNat).take (k.2.2.length : Int).toNat = k.2.2 := by
              rw [hx]
              have := cut_len (t := t) (i := g) (j := q) ⟨by omega, by omega, hq.2⟩
              show List.take _ _ = cut t g q
              unfold cut at this ⊢
              rw [this]; congr 1; omega
            rw [if_neg (by rw [htk]; simp [hne]; omega)]
            refine ⟨⟨by omega, by omega⟩, ?_⟩
            rw [show g + (k.2.2.length : Int) = q by omega]; exact hnext
          · have hxl : (k.2.2.length : Int) = q - 1 - (g + 1) := by rw [hx]; exact cut_len ⟨by omega, by omega, by omega⟩
            rw [hr, if_neg (by simp [hk]), if_pos (by simp [hk])]
            have z0 : (((t.drop g.toNat).getD (0 : Int).toNat 0).toNat : Int) = 47 := by rw [bt_drop (by omega) (Int.le_refl _), Int.add_zero]; exact hb1
            have z1 : (((t.drop g.toNat).getD ((k.2.2.length : Int) + 1).toNat 0).toNat : Int) = 47 := by rw [bt_drop (by omega) (by omega), show g + ((k.2.2.length : Int) + 1) = q - 1 by omega]; exact hb2
            have z2 : ((t.drop g.toNat).drop (1 : Int).toNat).take (((k.2.2.length : Int) + 1).toNat - (1 : Int).toNat) = k.2.2 := by
              rw [List.drop_drop, show g.toNat + (1 : Int).toNat = (g + 1).toNat by omega, show ((k.2.2.length : Int) + 1).toNat - (1 : Int).toNat = (q - 1).toNat - (g + 1).toNat by omega]
              exact hx.symm
            refine ⟨⟨by omega, by omega⟩, fun _ => ⟨by omega, by omega⟩, fun _ => ⟨⟨by omega, by omega⟩, by omega, by omega, by omega⟩, fun _ => ⟨⟨by omega, by omega⟩, by omega, by omega⟩, ?_⟩
            rw [z0, z1, z2, if_neg (by simp; omega)]
            refine ⟨⟨by omega, by omega⟩, ⟨by omega, by omega⟩, ?_⟩
            rw [show g + ((k.2.2.length : Int) + 2) = q by omega]; exact hnext
          · rw [hr, if_neg (by simp [hk]), if_neg (by simp [hk]), if_pos (by simp [hk])]
            have z0 : (((t.drop g.toNat).getD (0 : Int).toNat 0).toNat : Int) = 34 := by rw [bt_drop (by omega) (Int.le_refl _), Int.add_zero]; exact hb1
            refine ⟨fun j => 1 ≤ j ∧ g + j < q ∧ ∃ j2 n out, j ≤ j2 ∧ (∀ m, j ≤ m → m < j2 → bt t (g + m) ≠ 34 ∧ bt t (g + m) ≠ 92) ∧ quotedF t g n out (g + j2) = .ok (x, q), fun j => (t.length - j).toNat, ⟨Int.le_refl _, (quotedF_ok hx).1, 1, t.length + 1, [], Int.le_refl _, fun m h1 h2 => by omega, hx⟩, ?_⟩
            rintro j ⟨j0, j1, j2, n, out, hj, hmid, hF⟩
            refine ⟨fun _ => ⟨by omega, by omega⟩, ?_⟩
            rw [bt_drop (by omega) (by omega)]
            by_cases hlt : j < j2
            · have hm := hmid j (Int.le_refl _) hlt
              rw [if_pos (by simp [hm.1]; omega)]
              refine ⟨fun v => v = j, fun v hv => ?_, ⟨by omega, by omega⟩, ?_⟩
              · subst hv
                have := (quotedF_ok hF).1
                exact ⟨⟨by omega, by omega⟩, ⟨by omega, by omega, j2, n, out, by omega, fun m h1 h2 => hmid m (by omega) h2, hF⟩, by show (t.length - (v + 1)).toNat < (t.length - v).toNat; omega⟩
              · rw [if_neg (by simp [hm.2])]
            · have : j2 = j := by omega
              subst this
              cases n with
              | zero => cases hF
              | succ n =>
                rw [quotedF, if_pos (by omega)] at hF
                by_cases e1 : bt t (g + j2) = 34
                · rw [if_pos e1] at hF
                  simp only [Except.ok.injEq, Prod.mk.injEq] at hF
                  rw [if_neg (by simp [e1])]
                  refine ⟨⟨by omega, by omega⟩, ?_⟩
                  rw [z0, if_neg (by simp; omega)]
                  refine ⟨⟨by omega, by omega⟩, ⟨by omega, by omega⟩, ?_⟩
                  rw [show g + (j2 + 1) = q by omega]; exact hnext
                · rw [if_neg e1] at hF
                  rw [if_pos (by simp [e1]; omega)]
                  by_cases e2 : printB (bt t (g + j2)) = false
                  · rw [if_pos e2] at hF; cases hF
                  · rw [if_neg e2] at hF
                    by_cases e3 : bt t (g + j2) ≠ 92
                    · rw [if_pos e3] at hF
                      have := (quotedF_ok hF).1
                      refine ⟨fun v => v = j2, fun v hv => ?_, ⟨by omega, by omega⟩, ?_⟩
                      · subst hv
                        exact ⟨⟨by omega, by omega⟩, ⟨by omega, by omega, v + 1, n, _, Int.le_refl _, fun m h1 h2 => by omega, by rw [← Int.add_assoc]; exact hF⟩, by show (t.length - (v + 1)).toNat < (t.length - v).toNat; omega⟩
                      · rw [if_neg (by simpa using e3)]
                    · rw [if_neg e3] at hF
                      have e3 : bt t (g + j2) = 92 := by simpa using e3
                      by_cases e4 : (t.length : Int) ≤ (escM t (g + j2)).2.2
                      · rw [if_pos e4] at hF; cases hF
                      · rw [if_neg e4] at hF
                        by_cases e5 : (escM t (g + j2)).2.1 = false
                        · rw [if_pos e5] at hF; cases hF
                        · rw [if_neg e5] at hF
                          have := (quotedF_ok hF).1
                          have he := escM_mid (t := t) (a := g + j2) (by simpa using e5)
                          have hq2 := escM_q (t := t) (a := g + j2) (b := (escM t (g + j2)).1) (ok := (escM t (g + j2)).2.1) (q := (escM t (g + j2)).2.2) rfl
                          generalize (escM t (g + j2)).2.2 = z at *
                          refine ⟨fun v => v = j2 + 1, fun v hv => ?_, ⟨by omega, by omega⟩, ?_⟩
                          · subst hv
                            exact ⟨⟨by omega, by omega⟩, ⟨by omega, by omega, z + 1 - g, n, _, by omega, fun m h1 h2 => he (g + m) (by omega) (by omega), by rw [show g + (z + 1 - g) = z + 1 by omega]; exact hF⟩, by show (t.length - (j2 + 1 + 1)).toNat < (t.length - j2).toNat; omega⟩
                          · rw [if_pos (by simpa using e3)]
                            exact ⟨⟨by omega, by omega⟩, rfl⟩
        · by_cases h1 : k.1 = 1
          · simp [h1]
          · simp [h1]
      · rw [if_neg ha] at hch
        obtain ⟨rfl, hnil⟩ := hch
        have hil : i + 1 = l.length := by
          have := congrArg List.length hnil
          rw [List.length_drop] at this; simp at this; omega
        refine ⟨fun r => r = false, fun r hr => ?_, by simp⟩
        rw [hr, if_neg (by simp), if_neg (by simp), if_neg (by simp)]
        refine ⟨⟨by omega, by omega⟩, ?_⟩
        rw [if_neg (by simp; omega)]
        exact ⟨by omega, hg.2, by rw [if_neg (by omega)]; omega⟩
    · rw [if_neg (by simpa using hi)]
      rw [if_neg hi] at hch
      simpa using hch
  · rw [if_pos (by simp [andAll, hok]), f2 hok]
    simp [hok]
theorem tokenPlaces_walk (t : ByteArray) : Pure Try.prog 5 #[.string t] (.bool true) := Does.pure (tokenPlaces_does t.data.toList)

end Go.Proofs.Ytiaafdjdppganaa
