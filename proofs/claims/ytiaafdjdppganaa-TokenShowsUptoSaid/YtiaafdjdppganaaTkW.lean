/-
  Show.
-/
import Derived.Test.YtiaafdjdppganaaQuL
import Derived.Test.YtiaafdjdppganaaBld
namespace Go.Proofs.Ytiaafdjdppganaa
open Go Go.RowKit

theorem tf_zero_56 : zeroB Try.prog 56 = some [Value.pointer none, Value.slice none 0 0] := by kernel_rfl
theorem tf_zero_34 : zeroB Try.prog 34 = some [Value.int .i64 0, Value.int .i64 0, st []] := by kernel_rfl
theorem tf_ent_27 : entB Try.prog 27 = true := by kernel_rfl
theorem tf_ent_28 : entB Try.prog 28 = true := by kernel_rfl

/-- What a token adds to the text that Show makes. -/
def showTok (x : Tok) : List UInt8 := if x.1 = 1 ∨ x.1 = 4 then x.2.2 ++ [32] else if x.1 = 2 then quoteL x.2.2 ++ [32] else if x.1 = 3 then [47] ++ x.2.2 ++ [47, 32] else []
def showL (l : List Tok) : List UInt8 := l.flatMap showTok
def ShowBd (l : List Tok) : Prop := l.length ≤ 8388608 ∧ ∀ x ∈ l, x.2.2.length ≤ 1048576

def tshow_vc (tokens : List Tok) (K : (List UInt8) → (List Tok) → Prop) : Prop :=
  ∃ (Inv : Int → (List UInt8) → Prop) (mu : Int → (List UInt8) → Nat),
    Inv 0 [] ∧ ∀ (t8_1' : Int) (out_3' : List UInt8), Inv t8_1' out_3' →
      (if (decide (t8_1' < (tokens.length : Int))) = true then
        ∃ (J0_7' : (List UInt8) → Prop),
          (∀ (out_4' : List UInt8), J0_7' out_4' →
            (I64 (t8_1' + 1)) ∧
            Inv (t8_1' + 1) out_4' ∧ mu (t8_1' + 1) out_4' < mu t8_1' out_3') ∧
          (0 ≤ t8_1' ∧ t8_1' < (tokens.length : Int)) ∧
          ∃ (J0_8' : Bool → Prop),
            (∀ (t14_5' : Bool), J0_8' t14_5' →
              (if t14_5' = true then
                (((tokens.getD (t8_1').toNat default).2.2).length + ([32] : List UInt8).length ≤ 9223372036854775807) ∧
                (out_3'.length + (((tokens.getD (t8_1').toNat default).2.2) ++ ([32] : List UInt8)).length ≤ 140737488355328) ∧
                J0_7' (out_3' ++ (((tokens.getD (t8_1').toNat default).2.2) ++ ([32] : List UInt8)))
              else
                (if (decide ((tokens.getD (t8_1').toNat default).1 = 2)) = true then
                  (((tokens.getD (t8_1').toNat default).2.2).length ≤ 1048576) ∧
                  ((quoteL ((tokens.getD (t8_1').toNat default).2.2)).length + ([32] : List UInt8).length ≤ 9223372036854775807) ∧
                  (out_3'.length + ((quoteL ((tokens.getD (t8_1').toNat default).2.2)) ++ ([32] : List UInt8)).length ≤ 140737488355328) ∧
                  J0_7' (out_3' ++ ((quoteL ((tokens.getD (t8_1').toNat default).2.2)) ++ ([32] : List UInt8)))
                else
                  (if (decide ((tokens.getD (t8_1').toNat default).1 = 3)) = true then
                    (([47] : List UInt8).length + ((tokens.getD (t8_1').toNat default).2.2).length ≤ 9223372036854775807) ∧
                    ((([47] : List UInt8) ++ ((tokens.getD (t8_1').toNat default).2.2)).length + ([47, 32] : List UInt8).length ≤ 9223372036854775807) ∧
                    (out_3'.length + ((([47] : List UInt8) ++ ((tokens.getD (t8_1').toNat default).2.2)) ++ ([47, 32] : List UInt8)).length ≤ 140737488355328) ∧
                    J0_7' (out_3' ++ ((([47] : List UInt8) ++ ((tokens.getD (t8_1').toNat default).2.2)) ++ ([47, 32] : List UInt8)))
                  else
                    J0_7' out_3')))) ∧
            (if (decide ((tokens.getD (t8_1').toNat default).1 = 1)) = true then
              J0_8' (decide ((tokens.getD (t8_1').toNat default).1 = 1))
            else
              J0_8' (decide ((tokens.getD (t8_1').toNat default).1 = 4)))
      else
        K out_3' tokens)
set_option maxRecDepth 100000 in
theorem tshow_wp (w : Value) (tokens : List Tok) (K : (List UInt8) → (List Tok) → Prop) (h : tshow_vc tokens K) :
    Does Try.prog 15 [w] [] [HA.row w 34 3 tokens.length (tokens.flatMap tokC)] (fun o => (∃ (v : List UInt8) (d : List Tok), K v d ∧ o = .ret (st v) [HA.row w 34 3 d.length (d.flatMap tokC)]) ∨ (False)) := by
  unfold tshow_vc at h
  refine does_of_wc (n := 37) (L0 := [(0, w)]) Try.func15 rfl rfl rfl rfl (fun w0 M Q hE => ?_)
  refine wc_seq (fun K0 hK => ?_)
  refine wc_region ?_
  refine WL.val (OV.assign rfl) rfl rfl rfl ?_
  refine WL.nil ?_
  refine KX.go (hK [(0, w)] _ ?_) ⟨rfl, trivial⟩
  refine wc_seq (fun K0_1' hK_1' => ?_)
  refine wc_region ?_
  refine WL.make (MV.alloc tf_zero_56) rfl rfl rfl (fun b => ?_)
  refine WL.asBld 5 ?_
  refine WL.nil ?_
  refine KX.go (hK_1' [(0, w), (3, Value.pointer (some ⟨b, 0, none⟩))] _ ?_) ⟨rfl, rfl, trivial⟩
  refine wc_seq (fun K0_2' hK_2' => ?_)
  refine wc_seq (fun K0_3' hK_3' => ?_)
  refine wc_region ?_
  refine WL.val (OV.move rfl) rfl rfl rfl ?_
  refine WL.val (OV.lenRow 1 rfl rfl tf_sl_26) rfl rfl rfl ?_
  refine WL.val (OV.move rfl) rfl rfl rfl ?_
  refine WL.nil ?_
  refine KX.go (hK_3' [(3, Value.pointer (some ⟨b, 0, none⟩)), (6, w), (7, Value.int .i64 (tokens.length : Int)), (8, Value.int .i64 0)] _ ?_) ⟨rfl, rfl, rfl, rfl, trivial⟩
  refine wc_block ?_
  obtain ⟨Inv, mu, h0, hr⟩ := h
  refine wc_loop (S := Int × (List UInt8)) (fun σ => Inv σ.1 σ.2) (fun σ => mu σ.1 σ.2) (fun σ => [(3, Value.pointer (some ⟨b, 0, none⟩)), (6, w), (7, Value.int .i64 (tokens.length : Int)), (8, Value.int .i64 σ.1)]) (fun σ => [bld 56 5 b σ.2, HA.row w 34 3 tokens.length (tokens.flatMap tokC)]) (0, []) h0 ⟨rfl, rfl, rfl, rfl, trivial⟩ rfl ?_
  rintro ⟨t8_1', out_3'⟩ hi K0_38' hK_38'
  have h := hr t8_1' out_3' hi
  show WC _ _ _ _ [(3, Value.pointer (some ⟨b, 0, none⟩)), (6, w), (7, Value.int .i64 (tokens.length : Int)), (8, Value.int .i64 t8_1')] [bld 56 5 b out_3', HA.row w 34 3 tokens.length (tokens.flatMap tokC)]
  refine wc_seq (fun K0_39' hK_39' => ?_)
  refine wc_region ?_
  refine WL.val (OV.lss rfl rfl) rfl rfl rfl ?_
  refine WL.nil ?_
  refine KX.go (hK_39' [(3, Value.pointer (some ⟨b, 0, none⟩)), (6, w), (7, Value.int .i64 (tokens.length : Int)), (8, Value.int .i64 t8_1'), (9, Value.bool (decide (t8_1' < (tokens.length : Int))))] _ ?_) ⟨rfl, rfl, rfl, rfl, rfl, trivial⟩
  refine wc_seq (fun K0_40' hK_40' => ?_)
  refine wc_cond (b := decide (t8_1' < (tokens.length : Int))) rfl (fun hb => ?_) (fun hb => ?_)
  · replace h := if_T h hb
    refine wc_skip ?_
    refine KX.go (hK_40' [(3, Value.pointer (some ⟨b, 0, none⟩)), (6, w), (7, Value.int .i64 (tokens.length : Int)), (8, Value.int .i64 t8_1')] _ ?_) ⟨rfl, rfl, rfl, rfl, trivial⟩
    obtain ⟨J0_7', hJ_7', h⟩ := h
    refine wc_seqJ (X := (List UInt8)) (fun σ => J0_7' σ) (fun σ => [(3, Value.pointer (some ⟨b, 0, none⟩)), (6, w), (7, Value.int .i64 (tokens.length : Int)), (8, Value.int .i64 t8_1')]) (fun σ => [bld 56 5 b σ, HA.row w 34 3 tokens.length (tokens.flatMap tokC)]) ?_ (fun K0_48' hK_48' => ?_)
    · rintro out_4' hj
      replace h := hJ_7' out_4' hj
      show WC _ _ _ _ [(3, Value.pointer (some ⟨b, 0, none⟩)), (6, w), (7, Value.int .i64 (tokens.length : Int)), (8, Value.int .i64 t8_1')] [bld 56 5 b out_4', HA.row w 34 3 tokens.length (tokens.flatMap tokC)]
      refine wc_region ?_
      obtain ⟨o_46', h⟩ := h
      refine WL.val (OV.add rfl rfl o_46') rfl rfl rfl ?_
      refine WL.val (OV.move rfl) rfl rfl rfl ?_
      refine WL.nil ?_
      exact KX.goH (hK_38' (t8_1' + 1, out_4') h.1 h.2) ⟨rfl, rfl, rfl, rfl, trivial⟩ [0, 1] rfl rfl
    · skip
      refine wc_block ?_
      refine wc_seq (fun K0_49' hK_49' => ?_)
      refine wc_region ?_
      obtain ⟨o_47', h⟩ := h
      refine WL.val (OV.indexRow 1 rfl rfl rfl tf_sl_26 o_47') rfl rfl rfl ?_
      refine WL.val (OV.loadE (f := tokC) 1 rfl rfl tokC_len (by decide) (by omega) tf_row_34) rfl rfl rfl ?_
      refine WL.make (MV.alloc tf_zero_34) rfl rfl rfl (fun b_6' => ?_)
      refine WL.storeW (vs := [Value.int .i64 ((tokens.getD (t8_1').toNat default).1), Value.int .i64 ((tokens.getD (t8_1').toNat default).2.1), st ((tokens.getD (t8_1').toNat default).2.2)]) 0 rfl rfl rfl rfl rfl tf_size_34 rfl rfl rfl ?_
      refine WL.nil ?_
      refine KX.go (hK_49' [(3, Value.pointer (some ⟨b, 0, none⟩)), (5, Value.pointer (some ⟨b_6', 0, none⟩)), (6, w), (7, Value.int .i64 (tokens.length : Int)), (8, Value.int .i64 t8_1')] _ ?_) ⟨rfl, rfl, rfl, rfl, rfl, trivial⟩
      refine wc_seq (fun K0_50' hK_50' => ?_)
      refine wc_region ?_
      refine WL.val (OV.fieldAddr0 rfl tf_field_34_0) rfl rfl rfl ?_
      refine WL.val (OV.load rfl (At.own 0 rfl) rfl tf_scal_3) rfl rfl rfl ?_
      refine WL.nil ?_
      refine KX.go (hK_50' [(3, Value.pointer (some ⟨b, 0, none⟩)), (5, Value.pointer (some ⟨b_6', 0, none⟩)), (6, w), (7, Value.int .i64 (tokens.length : Int)), (8, Value.int .i64 t8_1'), (13, Value.int .i64 ((tokens.getD (t8_1').toNat default).1))] _ ?_) ⟨rfl, rfl, rfl, rfl, rfl, rfl, trivial⟩
      refine wc_block ?_
      obtain ⟨J0_8', hJ_8', h⟩ := h
      refine wc_seqJ (X := Bool) (fun σ => J0_8' σ) (fun σ => [(3, Value.pointer (some ⟨b, 0, none⟩)), (5, Value.pointer (some ⟨b_6', 0, none⟩)), (6, w), (7, Value.int .i64 (tokens.length : Int)), (8, Value.int .i64 t8_1'), (13, Value.int .i64 ((tokens.getD (t8_1').toNat default).1)), (14, Value.bool σ)]) (fun σ => [HA.blk b_6' (.cells [Value.int .i64 ((tokens.getD (t8_1').toNat default).1), Value.int .i64 ((tokens.getD (t8_1').toNat default).2.1), st ((tokens.getD (t8_1').toNat default).2.2)].toArray 34 (0, 0)), bld 56 5 b out_3', HA.row w 34 3 tokens.length (tokens.flatMap tokC)]) ?_ (fun K0_52' hK_52' => ?_)
      · rintro t14_5' hj
        replace h := hJ_8' t14_5' hj
        show WC _ _ _ _ [(3, Value.pointer (some ⟨b, 0, none⟩)), (5, Value.pointer (some ⟨b_6', 0, none⟩)), (6, w), (7, Value.int .i64 (tokens.length : Int)), (8, Value.int .i64 t8_1'), (13, Value.int .i64 ((tokens.getD (t8_1').toNat default).1)), (14, Value.bool t14_5')] [HA.blk b_6' (.cells [Value.int .i64 ((tokens.getD (t8_1').toNat default).1), Value.int .i64 ((tokens.getD (t8_1').toNat default).2.1), st ((tokens.getD (t8_1').toNat default).2.2)].toArray 34 (0, 0)), bld 56 5 b out_3', HA.row w 34 3 tokens.length (tokens.flatMap tokC)]
        refine wc_cond (b := t14_5') rfl (fun hb => ?_) (fun hb => ?_)
        · replace h := if_T h hb
          refine wc_region ?_
          refine WL.val (OV.fieldAddr0 rfl tf_field_34_2) rfl rfl rfl ?_
          refine WL.val (OV.load rfl (At.own 0 rfl) rfl tf_scal_9) rfl rfl rfl ?_
          obtain ⟨o_48', h⟩ := h
          refine WL.val (OV.cat rfl rfl o_48') rfl rfl rfl ?_
          obtain ⟨o_49', h⟩ := h
          refine WL.pick (H' := [bld 56 5 b out_3', HA.blk b_6' (.cells [Value.int .i64 ((tokens.getD (t8_1').toNat default).1), Value.int .i64 ((tokens.getD (t8_1').toNat default).2.1), st ((tokens.getD (t8_1').toNat default).2.2)].toArray 34 (0, 0)), HA.row w 34 3 tokens.length (tokens.flatMap tokC)]) [1, 0, 2] rfl rfl ?_
          refine WL.call tf_ent_27 rfl (writeString_does b out_3' (((tokens.getD (t8_1').toNat default).2.2) ++ ([32] : List UInt8)) o_49') rfl trivial rfl rfl ?_
          refine WL.nil ?_
          exact KX.goH (hK_48' (out_3' ++ (((tokens.getD (t8_1').toNat default).2.2) ++ ([32] : List UInt8))) h) ⟨rfl, rfl, rfl, rfl, trivial⟩ [0, 2] rfl rfl
        · replace h := if_F h hb
          refine wc_seq (fun K0_53' hK_53' => ?_)
          refine wc_region ?_
          refine WL.val (OV.eql rfl rfl) rfl rfl rfl ?_
          refine WL.val (OV.assign rfl) rfl rfl rfl ?_
          refine WL.nil ?_
          refine KX.go (hK_53' [(3, Value.pointer (some ⟨b, 0, none⟩)), (5, Value.pointer (some ⟨b_6', 0, none⟩)), (6, w), (7, Value.int .i64 (tokens.length : Int)), (8, Value.int .i64 t8_1'), (13, Value.int .i64 ((tokens.getD (t8_1').toNat default).1)), (21, Value.bool (decide ((tokens.getD (t8_1').toNat default).1 = 2)))] _ ?_) ⟨rfl, rfl, rfl, rfl, rfl, rfl, rfl, trivial⟩
          refine wc_cond (b := decide ((tokens.getD (t8_1').toNat default).1 = 2)) rfl (fun hb => ?_) (fun hb => ?_)
          · replace h := if_T h hb
            refine wc_region ?_
            refine WL.val (OV.fieldAddr0 rfl tf_field_34_2) rfl rfl rfl ?_
            refine WL.val (OV.load rfl (At.own 0 rfl) rfl tf_scal_9) rfl rfl rfl ?_
            obtain ⟨o_50', h⟩ := h
            refine WL.call (A := []) tf_ent_14 rfl (quote_does ((tokens.getD (t8_1').toNat default).2.2) o_50') rfl trivial rfl rfl ?_
            obtain ⟨o_51', h⟩ := h
            refine WL.val (OV.cat rfl rfl o_51') rfl rfl rfl ?_
            obtain ⟨o_52', h⟩ := h
            refine WL.pick (H' := [bld 56 5 b out_3', HA.blk b_6' (.cells [Value.int .i64 ((tokens.getD (t8_1').toNat default).1), Value.int .i64 ((tokens.getD (t8_1').toNat default).2.1), st ((tokens.getD (t8_1').toNat default).2.2)].toArray 34 (0, 0)), HA.row w 34 3 tokens.length (tokens.flatMap tokC)]) [1, 0, 2] rfl rfl ?_
            refine WL.call tf_ent_27 rfl (writeString_does b out_3' ((quoteL ((tokens.getD (t8_1').toNat default).2.2)) ++ ([32] : List UInt8)) o_52') rfl trivial rfl rfl ?_
            refine WL.nil ?_
            exact KX.goH (hK_48' (out_3' ++ ((quoteL ((tokens.getD (t8_1').toNat default).2.2)) ++ ([32] : List UInt8))) h) ⟨rfl, rfl, rfl, rfl, trivial⟩ [0, 2] rfl rfl
          · replace h := if_F h hb
            refine wc_seq (fun K0_54' hK_54' => ?_)
            refine wc_region ?_
            refine WL.val (OV.eql rfl rfl) rfl rfl rfl ?_
            refine WL.val (OV.assign rfl) rfl rfl rfl ?_
            refine WL.nil ?_
            refine KX.go (hK_54' [(3, Value.pointer (some ⟨b, 0, none⟩)), (5, Value.pointer (some ⟨b_6', 0, none⟩)), (6, w), (7, Value.int .i64 (tokens.length : Int)), (8, Value.int .i64 t8_1'), (28, Value.bool (decide ((tokens.getD (t8_1').toNat default).1 = 3)))] _ ?_) ⟨rfl, rfl, rfl, rfl, rfl, rfl, trivial⟩
            refine wc_cond (b := decide ((tokens.getD (t8_1').toNat default).1 = 3)) rfl (fun hb => ?_) (fun hb => ?_)
            · replace h := if_T h hb
              refine wc_region ?_
              refine WL.val (OV.fieldAddr0 rfl tf_field_34_2) rfl rfl rfl ?_
              refine WL.val (OV.load rfl (At.own 0 rfl) rfl tf_scal_9) rfl rfl rfl ?_
              obtain ⟨o_53', h⟩ := h
              refine WL.val (OV.cat rfl rfl o_53') rfl rfl rfl ?_
              obtain ⟨o_54', h⟩ := h
              refine WL.val (OV.cat rfl rfl o_54') rfl rfl rfl ?_
              obtain ⟨o_55', h⟩ := h
              refine WL.pick (H' := [bld 56 5 b out_3', HA.blk b_6' (.cells [Value.int .i64 ((tokens.getD (t8_1').toNat default).1), Value.int .i64 ((tokens.getD (t8_1').toNat default).2.1), st ((tokens.getD (t8_1').toNat default).2.2)].toArray 34 (0, 0)), HA.row w 34 3 tokens.length (tokens.flatMap tokC)]) [1, 0, 2] rfl rfl ?_
              refine WL.call tf_ent_27 rfl (writeString_does b out_3' ((([47] : List UInt8) ++ ((tokens.getD (t8_1').toNat default).2.2)) ++ ([47, 32] : List UInt8)) o_55') rfl trivial rfl rfl ?_
              refine WL.nil ?_
              exact KX.goH (hK_48' (out_3' ++ ((([47] : List UInt8) ++ ((tokens.getD (t8_1').toNat default).2.2)) ++ ([47, 32] : List UInt8))) h) ⟨rfl, rfl, rfl, rfl, trivial⟩ [0, 2] rfl rfl
            · replace h := if_F h hb
              refine wc_skip ?_
              exact KX.goH (hK_48' out_3' h) ⟨rfl, rfl, rfl, rfl, trivial⟩ [1, 2] rfl rfl
      · skip
        refine wc_seq (fun K0_55' hK_55' => ?_)
        refine wc_region ?_
        refine WL.val (OV.eql rfl rfl) rfl rfl rfl ?_
        refine WL.val (OV.assign rfl) rfl rfl rfl ?_
        refine WL.nil ?_
        refine KX.go (hK_55' [(3, Value.pointer (some ⟨b, 0, none⟩)), (5, Value.pointer (some ⟨b_6', 0, none⟩)), (6, w), (7, Value.int .i64 (tokens.length : Int)), (8, Value.int .i64 t8_1'), (13, Value.int .i64 ((tokens.getD (t8_1').toNat default).1)), (14, Value.bool (decide ((tokens.getD (t8_1').toNat default).1 = 1)))] _ ?_) ⟨rfl, rfl, rfl, rfl, rfl, rfl, rfl, trivial⟩
        refine wc_cond (b := decide ((tokens.getD (t8_1').toNat default).1 = 1)) rfl (fun hb => ?_) (fun hb => ?_)
        · replace h := if_T h hb
          refine wc_skip ?_
          exact KX.goH (hK_52' (decide ((tokens.getD (t8_1').toNat default).1 = 1)) h) ⟨rfl, rfl, rfl, rfl, rfl, rfl, rfl, trivial⟩ [0, 1, 2] rfl rfl
        · replace h := if_F h hb
          refine wc_region ?_
          refine WL.val (OV.eql rfl rfl) rfl rfl rfl ?_
          refine WL.val (OV.assign rfl) rfl rfl rfl ?_
          refine WL.nil ?_
          exact KX.goH (hK_52' (decide ((tokens.getD (t8_1').toNat default).1 = 4)) h) ⟨rfl, rfl, rfl, rfl, rfl, rfl, rfl, trivial⟩ [0, 1, 2] rfl rfl
  · replace h := if_F h hb
    refine wc_exit ?_
    refine KX.go (hK_2' [(3, Value.pointer (some ⟨b, 0, none⟩))] _ ?_) ⟨rfl, trivial⟩
    refine wc_seq (fun K0_56' hK_56' => ?_)
    refine wc_region ?_
    refine WL.call tf_ent_28 rfl (string_does b out_3') rfl trivial rfl rfl ?_
    refine WL.val (OV.assign rfl) rfl rfl rfl ?_
    refine WL.nil ?_
    refine KX.go (hK_56' [(2, st out_3')] _ ?_) ⟨rfl, trivial⟩
    refine wc_ret ?_
    exact hE.ret [0] rfl rfl (.inl ⟨_, _, h, rfl⟩) (ResV.of1 rfl (RV.tmp rfl))

theorem quoteL_len (s : List UInt8) : (quoteL s).length ≤ 4 * s.length + 2 := by
  have := qbs_len s
  unfold quoteL; rw [List.length_append, List.length_append]; simp only [List.length_cons, List.length_nil]; omega
theorem showTok_len (x : Tok) : (showTok x).length ≤ 4 * x.2.2.length + 3 := by
  have := quoteL_len x.2.2
  unfold showTok
  repeat' split
  all_goals simp
  all_goals omega
theorem showL_len : ∀ l : List Tok, (∀ x ∈ l, x.2.2.length ≤ 1048576) → (showL l).length ≤ l.length * 4194307
  | [], _ => by simp [showL]
  | x :: l, h => by
    have h1 := showTok_len x
    have h2 := showL_len l fun y hy => h y (by simp [hy])
    have h3 := h x (by simp)
    unfold showL at h2 ⊢
    rw [List.flatMap_cons, List.length_append, List.length_cons, Nat.add_mul]; omega
theorem take_show {l : List Tok} {i : Int} (h : 0 ≤ i ∧ i < l.length) : showL (l.take (i + 1).toNat) = showL (l.take i.toNat) ++ showTok (l.getD i.toNat default) := by
  have hlt : i.toNat < l.length := by omega
  unfold showL
  rw [show (i + 1).toNat = i.toNat + 1 by omega, List.take_add_one, List.flatMap_append, List.getElem?_eq_getElem hlt, List.getD_eq_getElem?_getD, List.getElem?_eq_getElem hlt]
  simp
theorem show_does (w : Value) (l : List Tok) (h : ShowBd l) : Does Try.prog 15 [w] [] [HA.row w 34 3 l.length (l.flatMap tokC)] (Ret (st (showL l)) [HA.row w 34 3 l.length (l.flatMap tokC)]) := by
  refine (tshow_wp w l (fun r d => r = showL l ∧ d = l) ?_).weak (by rintro o (⟨v, d, ⟨rfl, rfl⟩, rfl⟩ | h) <;> first | rfl | exact h.elim)
  unfold tshow_vc
  refine ⟨fun i out => 0 ≤ i ∧ i ≤ l.length ∧ out = showL (l.take i.toNat), fun i _ => (l.length - i).toNat, ⟨by omega, by omega, rfl⟩, fun i out ⟨h0, h1, ho⟩ => ?_⟩
  by_cases hi : i < (l.length : Int)
  · rw [if_pos (by simpa using hi)]
    have hmem : l.getD i.toNat default ∈ l := by
      rw [List.getD_eq_getElem?_getD, List.getElem?_eq_getElem (by omega)]; exact List.getElem_mem _
    have hx := h.2 _ hmem
    have hn := h.1
    have hol : out.length ≤ 35184397320192 := by
      rw [ho]
      have h2 := showL_len (l.take i.toNat) fun y hy => h.2 y (List.mem_of_mem_take hy)
      have h3 : (l.take i.toNat).length ≤ 8388608 := by rw [List.length_take]; omega
      have h4 : (l.take i.toNat).length * 4194307 ≤ 8388608 * 4194307 := Nat.mul_le_mul_right _ h3
      omega
    have hs := take_show ⟨h0, hi⟩
    have hql := quoteL_len (l.getD i.toNat default).2.2
    generalize l.getD i.toNat default = x at hx hs hql ⊢
    refine ⟨fun o => o = showL (l.take (i + 1).toNat), fun o hJ => ⟨⟨by omega, by omega⟩, ⟨by omega, by omega, hJ⟩, by show (l.length - (i + 1)).toNat < (l.length - i).toNat; omega⟩, ⟨h0, hi⟩, fun c => c = decide (x.1 = 1 ∨ x.1 = 4), fun c hc => ?_, ?_⟩
    · subst hc
      rw [hs, ← ho]
      unfold showTok
      by_cases c1 : x.1 = 1 ∨ x.1 = 4
      · rw [if_pos (by simpa using c1), if_pos c1]
        exact ⟨by simp; omega, by simp; omega, rfl⟩
      · rw [if_neg (by simpa using c1), if_neg c1]
        by_cases c2 : x.1 = 2
        · rw [if_pos (by simpa using c2), if_pos c2]
          exact ⟨hx, by simp; omega, by simp; omega, rfl⟩
        · rw [if_neg (by simpa using c2), if_neg c2]
          by_cases c3 : x.1 = 3
          · rw [if_pos (by simpa using c3), if_pos c3]
            exact ⟨by simp; omega, by simp; omega, by simp; omega, rfl⟩
          · rw [if_neg (by simpa using c3), if_neg c3]; simp
    · by_cases c1 : x.1 = 1
      · rw [if_pos (by simpa using c1)]; simp [c1]
      · rw [if_neg (by simpa using c1)]; simp [c1]
  · rw [if_neg (by simpa using hi)]
    rw [ho, List.take_of_length_le (by omega)]
    exact ⟨rfl, rfl⟩

end Go.Proofs.Ytiaafdjdppganaa
