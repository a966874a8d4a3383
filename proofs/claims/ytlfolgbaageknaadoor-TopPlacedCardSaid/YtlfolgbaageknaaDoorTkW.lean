/-
  Show.
-/
import Derived.Test.YtlfolgbaageknaaDoorQuV
import Derived.Test.YtlfolgbaageknaaDoorBld
import Derived.Test.YtlfolgbaageknaaDoorGwl
namespace Go.Proofs.YtlfolgbaageknaaDoor
open Go Go.RowKit

theorem tf_zero_51 : zeroB Tryd.prog 51 = some [Value.pointer none, Value.slice none 0 0] := by kernel_rfl
theorem tf_row_34 : RowT Tryd.prog 34 3 := ⟨by kernel_rfl, by kernel_rfl⟩
theorem tf_zero_34 : zeroB Tryd.prog 34 = some [Value.int .i64 0, Value.int .i64 0, st []] := by kernel_rfl
theorem tf_size_34 : sizeB Tryd.prog 34 3 = true := by kernel_rfl
theorem tf_field_34_0 : fieldOff Tryd.prog 34 0 = some 0 := by kernel_rfl
theorem tf_field_34_2 : fieldOff Tryd.prog 34 2 = some 2 := by kernel_rfl
theorem tf_ent_20 : entB Tryd.prog 20 = true := by kernel_rfl
theorem tf_ent_12 : entB Tryd.prog 12 = true := by kernel_rfl
theorem tf_ent_21 : entB Tryd.prog 21 = true := by kernel_rfl

/-- What a token adds to the text that Show makes. -/
def showTok (x : Tok) : List UInt8 := if x.1 = 1 ∨ x.1 = 4 then x.2.2 ++ [32] else if x.1 = 2 then quoteL x.2.2 ++ [32] else if x.1 = 3 then [47] ++ x.2.2 ++ [47, 32] else []
def showL (l : List Tok) : List UInt8 := l.flatMap showTok
def ShowBd (l : List Tok) : Prop := l.length ≤ 8388608 ∧ ∀ x ∈ l, x.2.2.length ≤ 1048576

def tshow_vc (tokens : List Tok) (K : (List UInt8) → Prop) : Prop :=
  ∃ (Inv : Int → (List UInt8) → Prop) (mu : Int → (List UInt8) → Nat),
    Inv 0 [] ∧ ∀ (t8_1' : Int) (out_3' : List UInt8), Inv t8_1' out_3' →
      (if (decide (t8_1' < (tokens.length : Int))) = true then
        ∃ (J0_7' : (List UInt8) → Prop),
          (∀ (out_4' : List UInt8), J0_7' out_4' →
            (I64 (t8_1' + 1)) ∧
            Inv (t8_1' + 1) out_4' ∧ mu (t8_1' + 1) out_4' < mu t8_1' out_3') ∧
          (0 ≤ t8_1' ∧ t8_1' < (tokens.length : Int)) ∧
          ∃ (J0_8' : Bool → Prop),
            (∀ (t14_5' : Bool), J0_8' t14_5' →
              (if t14_5' = true then
                (((tokens.getD (t8_1').toNat default).2.2).length + ([32] : List UInt8).length ≤ 9223372036854775807) ∧
                (out_3'.length + (((tokens.getD (t8_1').toNat default).2.2) ++ ([32] : List UInt8)).length ≤ 140737488355328) ∧
                J0_7' (out_3' ++ (((tokens.getD (t8_1').toNat default).2.2) ++ ([32] : List UInt8)))
              else
                (if (decide ((tokens.getD (t8_1').toNat default).1 = 2)) = true then
                  (((tokens.getD (t8_1').toNat default).2.2).length ≤ 1048576) ∧
                  ((quoteL ((tokens.getD (t8_1').toNat default).2.2)).length + ([32] : List UInt8).length ≤ 9223372036854775807) ∧
                  (out_3'.length + ((quoteL ((tokens.getD (t8_1').toNat default).2.2)) ++ ([32] : List UInt8)).length ≤ 140737488355328) ∧
                  J0_7' (out_3' ++ ((quoteL ((tokens.getD (t8_1').toNat default).2.2)) ++ ([32] : List UInt8)))
                else
                  (if (decide ((tokens.getD (t8_1').toNat default).1 = 3)) = true then
                    (([47] : List UInt8).length + ((tokens.getD (t8_1').toNat default).2.2).length ≤ 9223372036854775807) ∧
                    ((([47] : List UInt8) ++ ((tokens.getD (t8_1').toNat default).2.2)).length + ([47, 32] : List UInt8).length ≤ 9223372036854775807) ∧
                    (out_3'.length + ((([47] : List UInt8) ++ ((tokens.getD (t8_1').toNat default).2.2)) ++ ([47, 32] : List UInt8)).length ≤ 140737488355328) ∧
                    J0_7' (out_3' ++ ((([47] : List UInt8) ++ ((tokens.getD (t8_1').toNat default).2.2)) ++ ([47, 32] : List UInt8)))
                  else
                    J0_7' out_3')))) ∧
            (if (decide ((tokens.getD (t8_1').toNat default).1 = 1)) = true then
              J0_8' (decide ((tokens.getD (t8_1').toNat default).1 = 1))
            else
              J0_8' (decide ((tokens.getD (t8_1').toNat default).1 = 4)))
      else
        K out_3')
set_option maxRecDepth 100000 in
theorem tshow_wp (w : Value) (tokens : List Tok) (Ri1 : List (Nat × Obj)) (hRi1 : InSl w Ri1 tokens.length (tokens.flatMap tokC)) (K : (List UInt8) → Prop) (h : tshow_vc tokens K) :
    Does Tryd.prog 8 [w] (Ri1 ++ []) [] (fun o => (∃ (v : List UInt8), K v ∧ o = .ret (st v) []) ∨ (False)) := by
  unfold tshow_vc at h
  refine does_of_wc (n := 37) (L0 := [(0, w)]) Tryd.func8 rfl rfl rfl rfl (fun w0 M Q hE => ?_)
  have hi1 : LIn ⟨37, [], w0, M, (Ri1 ++ [])⟩ w tokens.length (tokens.flatMap tokC) := LIn.mk hRi1 (fun p hp => by simp [hp])
  refine wc_seq (fun K0 hK => ?_)
  refine wc_region ?_
  refine WL.val (OV.assign rfl) rfl rfl rfl ?_
  refine WL.nil ?_
  refine KX.go (hK [(0, w)] _ ?_) ⟨rfl, trivial⟩
  refine wc_seq (fun K0_1' hK_1' => ?_)
  refine wc_region ?_
  refine WL.make (MV.alloc tf_zero_51) rfl rfl rfl (fun b => ?_)
  refine WL.asBld 5 ?_
  refine WL.nil ?_
  refine KX.go (hK_1' [(0, w), (3, Value.pointer (some ⟨b, 0, none⟩))] _ ?_) ⟨rfl, rfl, trivial⟩
  refine wc_seq (fun K0_2' hK_2' => ?_)
  refine wc_seq (fun K0_3' hK_3' => ?_)
  refine wc_region ?_
  refine WL.val (OV.move rfl) rfl rfl rfl ?_
  refine WL.val (OV.lenIn hi1 rfl tf_sl_26) rfl rfl rfl ?_
  refine WL.val (OV.move rfl) rfl rfl rfl ?_
  refine WL.nil ?_
  refine KX.go (hK_3' [(3, Value.pointer (some ⟨b, 0, none⟩)), (6, w), (7, Value.int .i64 (tokens.length : Int)), (8, Value.int .i64 0)] _ ?_) ⟨rfl, rfl, rfl, rfl, trivial⟩
  refine wc_block ?_
  obtain ⟨Inv, mu, h0, hr⟩ := h
  refine wc_loop (S := Int × (List UInt8)) (fun σ => Inv σ.1 σ.2) (fun σ => mu σ.1 σ.2) (fun σ => [(3, Value.pointer (some ⟨b, 0, none⟩)), (6, w), (7, Value.int .i64 (tokens.length : Int)), (8, Value.int .i64 σ.1)]) (fun σ => [bld 51 5 b σ.2]) (0, []) h0 ⟨rfl, rfl, rfl, rfl, trivial⟩ rfl ?_
  rintro ⟨t8_1', out_3'⟩ hi K0_38' hK_38'
  have h := hr t8_1' out_3' hi
  show WC _ _ _ _ [(3, Value.pointer (some ⟨b, 0, none⟩)), (6, w), (7, Value.int .i64 (tokens.length : Int)), (8, Value.int .i64 t8_1')] [bld 51 5 b out_3']
  refine wc_seq (fun K0_39' hK_39' => ?_)
  refine wc_region ?_
  refine WL.val (OV.lss rfl rfl) rfl rfl rfl ?_
  refine WL.nil ?_
  refine KX.go (hK_39' [(3, Value.pointer (some ⟨b, 0, none⟩)), (6, w), (7, Value.int .i64 (tokens.length : Int)), (8, Value.int .i64 t8_1'), (9, Value.bool (decide (t8_1' < (tokens.length : Int))))] _ ?_) ⟨rfl, rfl, rfl, rfl, rfl, trivial⟩
  refine wc_seq (fun K0_40' hK_40' => ?_)
  refine wc_cond (b := decide (t8_1' < (tokens.length : Int))) rfl (fun hb => ?_) (fun hb => ?_)
  · replace h := if_T h hb
    refine wc_skip ?_
    refine KX.go (hK_40' [(3, Value.pointer (some ⟨b, 0, none⟩)), (6, w), (7, Value.int .i64 (tokens.length : Int)), (8, Value.int .i64 t8_1')] _ ?_) ⟨rfl, rfl, rfl, rfl, trivial⟩
    obtain ⟨J0_7', hJ_7', h⟩ := h
    refine wc_seqJ (X := (List UInt8)) (fun σ => J0_7' σ) (fun σ => [(3, Value.pointer (some ⟨b, 0, none⟩)), (6, w), (7, Value.int .i64 (tokens.length : Int)), (8, Value.int .i64 t8_1')]) (fun σ => [bld 51 5 b σ]) ?_ (fun K0_48' hK_48' => ?_)
    · rintro out_4' hj
      replace h := hJ_7' out_4' hj
      show WC _ _ _ _ [(3, Value.pointer (some ⟨b, 0, none⟩)), (6, w), (7, Value.int .i64 (tokens.length : Int)), (8, Value.int .i64 t8_1')] [bld 51 5 b out_4']
      refine wc_region ?_
      obtain ⟨o_46', h⟩ := h
      refine WL.val (OV.add rfl rfl o_46') rfl rfl rfl ?_
      refine WL.val (OV.move rfl) rfl rfl rfl ?_
      refine WL.nil ?_
      exact KX.goH (hK_38' (t8_1' + 1, out_4') h.1 h.2) ⟨rfl, rfl, rfl, rfl, trivial⟩ [0] rfl rfl
    · skip
      refine wc_block ?_
      refine wc_seq (fun K0_49' hK_49' => ?_)
      refine wc_region ?_
      obtain ⟨o_47', h⟩ := h
      refine WL.val (OV.indexIn hi1 rfl rfl tf_sl_26 o_47') rfl rfl rfl ?_
      refine WL.val (OV.loadInE (f := tokC) hi1 rfl tokC_len (by decide) (by omega) tf_row_34) rfl rfl rfl ?_
      refine WL.make (MV.alloc tf_zero_34) rfl rfl rfl (fun b_6' => ?_)
      refine WL.storeW (vs := [Value.int .i64 ((tokens.getD (t8_1').toNat default).1), Value.int .i64 ((tokens.getD (t8_1').toNat default).2.1), st ((tokens.getD (t8_1').toNat default).2.2)]) 0 rfl rfl rfl rfl rfl tf_size_34 rfl rfl rfl ?_
      refine WL.nil ?_
      refine KX.go (hK_49' [(3, Value.pointer (some ⟨b, 0, none⟩)), (5, Value.pointer (some ⟨b_6', 0, none⟩)), (6, w), (7, Value.int .i64 (tokens.length : Int)), (8, Value.int .i64 t8_1')] _ ?_) ⟨rfl, rfl, rfl, rfl, rfl, trivial⟩
      refine wc_seq (fun K0_50' hK_50' => ?_)
      refine wc_region ?_
      refine WL.val (OV.fieldAddr0 rfl tf_field_34_0) rfl rfl rfl ?_
      refine WL.val (OV.load rfl (At.own 0 rfl) rfl tf_scal_3) rfl rfl rfl ?_
      refine WL.nil ?_
      refine KX.go (hK_50' [(3, Value.pointer (some ⟨b, 0, none⟩)), (5, Value.pointer (some ⟨b_6', 0, none⟩)), (6, w), (7, Value.int .i64 (tokens.length : Int)), (8, Value.int .i64 t8_1'), (13, Value.int .i64 ((tokens.getD (t8_1').toNat default).1))] _ ?_) ⟨rfl, rfl, rfl, rfl, rfl, rfl, trivial⟩
      refine wc_block ?_
      obtain ⟨J0_8', hJ_8', h⟩ := h
      refine wc_seqJ (X := Bool) (fun σ => J0_8' σ) (fun σ => [(3, Value.pointer (some ⟨b, 0, none⟩)), (5, Value.pointer (some ⟨b_6', 0, none⟩)), (6, w), (7, Value.int .i64 (tokens.length : Int)), (8, Value.int .i64 t8_1'), (13, Value.int .i64 ((tokens.getD (t8_1').toNat default).1)), (14, Value.bool σ)]) (fun σ => [HA.blk b_6' (.cells [Value.int .i64 ((tokens.getD (t8_1').toNat default).1), Value.int .i64 ((tokens.getD (t8_1').toNat default).2.1), st ((tokens.getD (t8_1').toNat default).2.2)].toArray 34 (0, 0)), bld 51 5 b out_3']) ?_ (fun K0_52' hK_52' => ?_)
      · rintro t14_5' hj
        replace h := hJ_8' t14_5' hj
        show WC _ _ _ _ [(3, Value.pointer (some ⟨b, 0, none⟩)), (5, Value.pointer (some ⟨b_6', 0, none⟩)), (6, w), (7, Value.int .i64 (tokens.length : Int)), (8, Value.int .i64 t8_1'), (13, Value.int .i64 ((tokens.getD (t8_1').toNat default).1)), (14, Value.bool t14_5')] [HA.blk b_6' (.cells [Value.int .i64 ((tokens.getD (t8_1').toNat default).1), Value.int .i64 ((tokens.getD (t8_1').toNat default).2.1), st ((tokens.getD (t8_1').toNat default).2.2)].toArray 34 (0, 0)), bld 51 5 b out_3']
        refine wc_cond (b := t14_5') rfl (fun hb => ?_) (fun hb => ?_)
        · replace h := if_T h hb
          refine wc_region ?_
          refine WL.val (OV.fieldAddr0 rfl tf_field_34_2) rfl rfl rfl ?_
          refine WL.val (OV.load rfl (At.own 0 rfl) rfl tf_scal_9) rfl rfl rfl ?_
          obtain ⟨o_48', h⟩ := h
          refine WL.val (OV.cat rfl rfl o_48') rfl rfl rfl ?_
          obtain ⟨o_49', h⟩ := h
          refine WL.pick (H' := [bld 51 5 b out_3', HA.blk b_6' (.cells [Value.int .i64 ((tokens.getD (t8_1').toNat default).1), Value.int .i64 ((tokens.getD (t8_1').toNat default).2.1), st ((tokens.getD (t8_1').toNat default).2.2)].toArray 34 (0, 0))]) [1, 0] rfl rfl ?_
          refine WL.call tf_ent_20 rfl (writeString_does b out_3' (((tokens.getD (t8_1').toNat default).2.2) ++ ([32] : List UInt8)) o_49') rfl trivial rfl rfl ?_
          refine WL.nil ?_
          exact KX.goH (hK_48' (out_3' ++ (((tokens.getD (t8_1').toNat default).2.2) ++ ([32] : List UInt8))) h) ⟨rfl, rfl, rfl, rfl, trivial⟩ [0] rfl rfl
        · replace h := if_F h hb
          refine wc_seq (fun K0_53' hK_53' => ?_)
          refine wc_region ?_
          refine WL.val (OV.eql rfl rfl) rfl rfl rfl ?_
          refine WL.val (OV.assign rfl) rfl rfl rfl ?_
          refine WL.nil ?_
          refine KX.go (hK_53' [(3, Value.pointer (some ⟨b, 0, none⟩)), (5, Value.pointer (some ⟨b_6', 0, none⟩)), (6, w), (7, Value.int .i64 (tokens.length : Int)), (8, Value.int .i64 t8_1'), (13, Value.int .i64 ((tokens.getD (t8_1').toNat default).1)), (21, Value.bool (decide ((tokens.getD (t8_1').toNat default).1 = 2)))] _ ?_) ⟨rfl, rfl, rfl, rfl, rfl, rfl, rfl, trivial⟩
          refine wc_cond (b := decide ((tokens.getD (t8_1').toNat default).1 = 2)) rfl (fun hb => ?_) (fun hb => ?_)
          · replace h := if_T h hb
            refine wc_region ?_
            refine WL.val (OV.fieldAddr0 rfl tf_field_34_2) rfl rfl rfl ?_
            refine WL.val (OV.load rfl (At.own 0 rfl) rfl tf_scal_9) rfl rfl rfl ?_
            obtain ⟨o_50', h⟩ := h
            refine WL.call (A := []) tf_ent_12 rfl (quote_does ((tokens.getD (t8_1').toNat default).2.2) o_50') rfl trivial rfl rfl ?_
            obtain ⟨o_51', h⟩ := h
            refine WL.val (OV.cat rfl rfl o_51') rfl rfl rfl ?_
            obtain ⟨o_52', h⟩ := h
            refine WL.pick (H' := [bld 51 5 b out_3', HA.blk b_6' (.cells [Value.int .i64 ((tokens.getD (t8_1').toNat default).1), Value.int .i64 ((tokens.getD (t8_1').toNat default).2.1), st ((tokens.getD (t8_1').toNat default).2.2)].toArray 34 (0, 0))]) [1, 0] rfl rfl ?_
            refine WL.call tf_ent_20 rfl (writeString_does b out_3' ((quoteL ((tokens.getD (t8_1').toNat default).2.2)) ++ ([32] : List UInt8)) o_52') rfl trivial rfl rfl ?_
            refine WL.nil ?_
            exact KX.goH (hK_48' (out_3' ++ ((quoteL ((tokens.getD (t8_1').toNat default).2.2)) ++ ([32] : List UInt8))) h) ⟨rfl, rfl, rfl, rfl, trivial⟩ [0] rfl rfl
          · replace h := if_F h hb
            refine wc_seq (fun K0_54' hK_54' => ?_)
            refine wc_region ?_
            refine WL.val (OV.eql rfl rfl) rfl rfl rfl ?_
            refine WL.val (OV.assign rfl) rfl rfl rfl ?_
            refine WL.nil ?_
            refine KX.go (hK_54' [(3, Value.pointer (some ⟨b, 0, none⟩)), (5, Value.pointer (some ⟨b_6', 0, none⟩)), (6, w), (7, Value.int .i64 (tokens.length : Int)), (8, Value.int .i64 t8_1'), (28, Value.bool (decide ((tokens.getD (t8_1').toNat default).1 = 3)))] _ ?_) ⟨rfl, rfl, rfl, rfl, rfl, rfl, trivial⟩
            refine wc_cond (b := decide ((tokens.getD (t8_1').toNat default).1 = 3)) rfl (fun hb => ?_) (fun hb => ?_)
            · replace h := if_T h hb
              refine wc_region ?_
              refine WL.val (OV.fieldAddr0 rfl tf_field_34_2) rfl rfl rfl ?_
              refine WL.val (OV.load rfl (At.own 0 rfl) rfl tf_scal_9) rfl rfl rfl ?_
              obtain ⟨o_53', h⟩ := h
              refine WL.val (OV.cat rfl rfl o_53') rfl rfl rfl ?_
              obtain ⟨o_54', h⟩ := h
              refine WL.val (OV.cat rfl rfl o_54') rfl rfl rfl ?_
              obtain ⟨o_55', h⟩ := h
              refine WL.pick (H' := [bld 51 5 b out_3', HA.blk b_6' (.cells [Value.int .i64 ((tokens.getD (t8_1').toNat default).1), Value.int .i64 ((tokens.getD (t8_1').toNat default).2.1), st ((tokens.getD (t8_1').toNat default).2.2)].toArray 34 (0, 0))]) [1, 0] rfl rfl ?_
              refine WL.call tf_ent_20 rfl (writeString_does b out_3' ((([47] : List UInt8) ++ ((tokens.getD (t8_1').toNat default).2.2)) ++ ([47, 32] : List UInt8)) o_55') rfl trivial rfl rfl ?_
              refine WL.nil ?_
              exact KX.goH (hK_48' (out_3' ++ ((([47] : List UInt8) ++ ((tokens.getD (t8_1').toNat default).2.2)) ++ ([47, 32] : List UInt8))) h) ⟨rfl, rfl, rfl, rfl, trivial⟩ [0] rfl rfl
            · replace h := if_F h hb
              refine wc_skip ?_
              exact KX.goH (hK_48' out_3' h) ⟨rfl, rfl, rfl, rfl, trivial⟩ [1] rfl rfl
      · skip
        refine wc_seq (fun K0_55' hK_55' => ?_)
        refine wc_region ?_
        refine WL.val (OV.eql rfl rfl) rfl rfl rfl ?_
        refine WL.val (OV.assign rfl) rfl rfl rfl ?_
        refine WL.nil ?_
        refine KX.go (hK_55' [(3, Value.pointer (some ⟨b, 0, none⟩)), (5, Value.pointer (some ⟨b_6', 0, none⟩)), (6, w), (7, Value.int .i64 (tokens.length : Int)), (8, Value.int .i64 t8_1'), (13, Value.int .i64 ((tokens.getD (t8_1').toNat default).1)), (14, Value.bool (decide ((tokens.getD (t8_1').toNat default).1 = 1)))] _ ?_) ⟨rfl, rfl, rfl, rfl, rfl, rfl, rfl, trivial⟩
        refine wc_cond (b := decide ((tokens.getD (t8_1').toNat default).1 = 1)) rfl (fun hb => ?_) (fun hb => ?_)
        · replace h := if_T h hb
          refine wc_skip ?_
          exact KX.goH (hK_52' (decide ((tokens.getD (t8_1').toNat default).1 = 1)) h) ⟨rfl, rfl, rfl, rfl, rfl, rfl, rfl, trivial⟩ [0, 1] rfl rfl
        · replace h := if_F h hb
          refine wc_region ?_
          refine WL.val (OV.eql rfl rfl) rfl rfl rfl ?_
          refine WL.val (OV.assign rfl) rfl rfl rfl ?_
          refine WL.nil ?_
          exact KX.goH (hK_52' (decide ((tokens.getD (t8_1').toNat default).1 = 4)) h) ⟨rfl, rfl, rfl, rfl, rfl, rfl, rfl, trivial⟩ [0, 1] rfl rfl
  · replace h := if_F h hb
    refine wc_exit ?_
    refine KX.go (hK_2' [(3, Value.pointer (some ⟨b, 0, none⟩))] _ ?_) ⟨rfl, trivial⟩
    refine wc_seq (fun K0_56' hK_56' => ?_)
    refine wc_region ?_
    refine WL.call tf_ent_21 rfl (string_does b out_3') rfl trivial rfl rfl ?_
    refine WL.val (OV.assign rfl) rfl rfl rfl ?_
    refine WL.nil ?_
    refine KX.go (hK_56' [(2, st out_3')] _ ?_) ⟨rfl, trivial⟩
    refine wc_ret ?_
    exact hE.ret [] rfl rfl (.inl ⟨_, h, rfl⟩) (ResV.of1 rfl (RV.tmp rfl))

theorem quoteL_len (s : List UInt8) : (quoteL s).length ≤ 4 * s.length + 2 := by
  have := qbs_len s
  unfold quoteL; rw [List.length_append, List.length_append]; simp only [List.length_cons, List.length_nil]; omega
theorem showTok_len (x : Tok) : (showTok x).length ≤ 4 * x.2.2.length + 3 := by
  have := quoteL_len x.2.2
  unfold showTok
  repeat' split
  all_goals simp
  all_goals omega
theorem showL_len : ∀ l : List Tok, (∀ x ∈ l, x.2.2.length ≤ 1048576) → (showL l).length ≤ l.length * 4194307
  | [], _ => by simp [showL]
  | x :: l, h => by
    have h1 := showTok_len x
    have h2 := showL_len l fun y hy => h y (by simp [hy])
    have h3 := h x (by simp)
    unfold showL at h2 ⊢
    rw [List.flatMap_cons, List.length_append, List.length_cons, Nat.add_mul]; omega
theorem take_show {l : List Tok} {i : Int} (h : 0 ≤ i ∧ i < l.length) : showL (l.take (i + 1).toNat) = showL (l.take i.toNat) ++ showTok (l.getD i.toNat default) := by
  have hlt : i.toNat < l.length := by omega
  unfold showL
  rw [show (i + 1).toNat = i.toNat + 1 by omega, List.take_add_one, List.flatMap_append, List.getElem?_eq_getElem hlt, List.getD_eq_getElem?_getD, List.getElem?_eq_getElem hlt]
  simp
theorem showIn_does (w : Value) (l : List Tok) (h : ShowBd l) (R : List (Nat × Obj)) (hR : InSl w R l.length (l.flatMap tokC)) : Does Tryd.prog 8 [w] (R ++ []) [] (Ret (st (showL l)) []) := by
  refine (tshow_wp w l R hR (fun r => r = showL l) ?_).weak (by rintro o (⟨v, rfl, rfl⟩ | h) <;> first | rfl | exact h.elim)
  unfold tshow_vc
  refine ⟨fun i out => 0 ≤ i ∧ i ≤ l.length ∧ out = showL (l.take i.toNat), fun i _ => (l.length - i).toNat, ⟨by omega, by omega, rfl⟩, fun i out ⟨h0, h1, ho⟩ => ?_⟩
  by_cases hi : i < (l.length : Int)
  · rw [if_pos (by simpa using hi)]
    have hmem : l.getD i.toNat default ∈ l := by
      rw [List.getD_eq_getElem?_getD, List.getElem?_eq_getElem (by omega)]; exact List.getElem_mem _
    have hx := h.2 _ hmem
    have hn := h.1
    have hol : out.length ≤ 35184397320192 := by
      rw [ho]
      have h2 := showL_len (l.take i.toNat) fun y hy => h.2 y (List.mem_of_mem_take hy)
      have h3 : (l.take i.toNat).length ≤ 8388608 := by rw [List.length_take]; omega
      have h4 : (l.take i.toNat).length * 4194307 ≤ 8388608 * 4194307 := Nat.mul_le_mul_right _ h3
      omega
    have hs := take_show ⟨h0, hi⟩
    have hql := quoteL_len (l.getD i.toNat default).2.2
    generalize l.getD i.toNat default = x at hx hs hql ⊢
    refine ⟨fun o => o = showL (l.take (i + 1).toNat), fun o hJ => ⟨⟨by omega, by omega⟩, ⟨by omega, by omega, hJ⟩, by show (l.length - (i + 1)).toNat < (l.length - i).toNat; omega⟩, ⟨h0, hi⟩, fun c => c = decide (x.1 = 1 ∨ x.1 = 4), fun c hc => ?_, ?_⟩
    · subst hc
      rw [hs, ← ho]
      unfold showTok
      by_cases c1 : x.1 = 1 ∨ x.1 = 4
      · rw [if_pos (by simpa using c1), if_pos c1]
        exact ⟨by simp; omega, by simp; omega, rfl⟩
      · rw [if_neg (by simpa using c1), if_neg c1]
        by_cases c2 : x.1 = 2
        · rw [if_pos (by simpa using c2), if_pos c2]
          exact ⟨hx, by simp; omega, by simp; omega, rfl⟩
        · rw [if_neg (by simpa using c2), if_neg c2]
          by_cases c3 : x.1 = 3
          · rw [if_pos (by simpa using c3), if_pos c3]
            exact ⟨by simp; omega, by simp; omega, by simp; omega, rfl⟩
          · rw [if_neg (by simpa using c3), if_neg c3]; simp
    · by_cases c1 : x.1 = 1
      · rw [if_pos (by simpa using c1)]; simp [c1]
      · rw [if_neg (by simpa using c1)]; simp [c1]
  · rw [if_neg (by simpa using hi)]
    rw [ho, List.take_of_length_le (by omega)]

def nmB (c : UInt8) : Bool := letterB (c.toNat : Int) || digitB (c.toNat : Int)
/-- What may stand between two slashes. -/
inductive Rx : List UInt8 → Prop
  | nil : Rx []
  | esc (d : UInt8) (r : List UInt8) : printB (d.toNat : Int) = true → Rx r → Rx (92 :: d :: r)
  | one (c : UInt8) (r : List UInt8) : printB (c.toNat : Int) = true → c ≠ 47 → c ≠ 92 → Rx r → Rx (c :: r)
def Good (k : Tok) : Prop :=
  (k.1 = 1 ∧ (∃ c r, k.2.2 = c :: r ∧ letterB (c.toNat : Int) = true) ∧ (∀ c ∈ k.2.2, nmB c = true) ∧ k.2.2.length ≤ 32) ∨ k.1 = 2 ∨ (k.1 = 3 ∧ Rx k.2.2) ∨
  (k.1 = 4 ∧ ((∃ c, k.2.2 = [c] ∧ marksL.contains c = true) ∨ k.2.2 = [62, 62]))
theorem bt_toNat {t : List UInt8} {p : Int} {x : UInt8} (h : bt t p = (x.toNat : Int)) : (bt t p).toNat.toUInt8 = x := by rw [h]; simp
theorem cut_cons {t : List UInt8} {i j : Int} (h : 0 ≤ i ∧ i < j ∧ j ≤ t.length) : ∃ x : UInt8, bt t i = (x.toNat : Int) ∧ cut t i j = x :: cut t (i + 1) j := by
  obtain ⟨x, hx, hb⟩ := drop_bt (t := t) (p := i) ⟨h.1, by omega⟩
  refine ⟨x, hb, ?_⟩
  unfold cut
  rw [hx, show j.toNat - i.toNat = (j.toNat - (i + 1).toNat) + 1 by omega, List.take_succ_cons]
theorem cut_nil (t : List UInt8) (i : Int) : cut t i i = [] := by unfold cut; simp
theorem cut_len {t : List UInt8} {i j : Int} : (cut t i j).length ≤ t.length := by
  unfold cut; rw [List.length_take, List.length_drop]; omega
theorem regexF_good {t : List UInt8} {fr : Int} : ∀ {n : Nat} {k : Int} {x : List UInt8} {q : Int}, 0 ≤ k → regexF t fr n k = .ok (x, q) → x = cut t (fr + 1) (q - 1) ∧ Rx (cut t k (q - 1))
  | 0, _, _, _, _, h => by cases h
  | n + 1, k, x, q, h0, h => by
    have hq := regexF_ok h
    rw [regexF] at h
    split at h
    · rename_i hk
      split at h
      · rename_i h9
        split at h
        · cases h
        · rename_i hp
          have h1 := regexF_ok h
          have h2 := regexF_good (by omega) h
          refine ⟨h2.1, ?_⟩
          obtain ⟨c, c1, c2⟩ := cut_cons (t := t) (i := k) (j := q - 1) ⟨h0, by omega, by omega⟩
          obtain ⟨d, d1, d2⟩ := cut_cons (t := t) (i := k + 1) (j := q - 1) ⟨by omega, by omega, by omega⟩
          have hc : c = 92 := UInt8.toNat_inj.1 (by have := h9.1; rw [c1] at this; exact Int.ofNat.inj this)
          rw [c2, d2, hc, show k + 1 + 1 = k + 2 by omega]
          refine .esc d _ ?_ h2.2
          rw [d1] at hp; simpa using hp
      · rename_i h9
        split at h
        · cases h
        · rename_i hp
          split at h
          · simp only [Except.ok.injEq, Prod.mk.injEq] at h
            obtain ⟨rfl, rfl⟩ := h
            rw [show k + 1 - 1 = k by omega, cut_nil]
            exact ⟨rfl, .nil⟩
          · rename_i h47
            have h1 := regexF_ok h
            have h2 := regexF_good (by omega) h
            refine ⟨h2.1, ?_⟩
            obtain ⟨c, c1, c2⟩ := cut_cons (t := t) (i := k) (j := q - 1) ⟨h0, by omega, by omega⟩
            rw [c2]
            rw [c1] at hp h47 h9
            refine .one c _ (by simpa using hp) (fun e => h47 (by rw [e]; rfl)) (fun e => h9 ⟨by rw [e]; rfl, by omega⟩) h2.2
    · cases h
theorem quotedF_size {t : List UInt8} {fr : Int} : ∀ {n : Nat} {out : List UInt8} {k : Int} {x : List UInt8} {q : Int}, quotedF t fr n out k = .ok (x, q) → (x.length : Int) ≤ out.length + (q - k)
  | 0, _, _, _, _, h => by cases h
  | n + 1, out, k, x, q, h => by
    have hq := quotedF_ok h
    rw [quotedF] at h
    split at h
    · split at h
      · simp only [Except.ok.injEq, Prod.mk.injEq] at h
        obtain ⟨rfl, rfl⟩ := h; omega
      · split at h
        · cases h
        · split at h
          · have := quotedF_size h
            rw [List.length_append] at this; simp only [List.length_cons, List.length_nil] at this; omega
          · split at h
            · cases h
            · split at h
              · cases h
              · have h1 := quotedF_size h
                have h2 := (escM_q (t := t) (a := k) (b := (escM t k).1) (ok := (escM t k).2.1) (q := (escM t k).2.2) rfl).1
                rw [List.length_append] at h1; simp only [List.length_cons, List.length_nil] at h1; omega
    · cases h
theorem nameL_all : ∀ l : List UInt8, ∀ c ∈ l.take (nameL l), nmB c = true
  | [], c, h => by simp at h
  | d :: l, c, h => by
    rw [nameL] at h
    split at h
    · rename_i hd
      rw [Nat.add_comm, List.take_succ_cons] at h
      rcases List.mem_cons.1 h with rfl | h
      · exact hd
      · exact nameL_all l c h
    · simp at h
theorem nameL_back : ∀ (w r : List UInt8), (∀ c ∈ w, nmB c = true) → nameL (w ++ 32 :: r) = w.length
  | [], r, _ => by rw [List.nil_append, nameL]; rfl
  | c :: w, r, h => by
    have hc : nmB c = true := h c (by simp)
    unfold nmB at hc
    rw [List.cons_append, nameL, if_pos hc, nameL_back w r fun d hd => h d (by simp [hd]), List.length_cons]; omega
theorem oneM_good {t : List UInt8} {a : Int} (hb : 0 ≤ a ∧ a < t.length) {k : Tok} {q : Int} (h : oneM t a = .ok (k, q)) : Good k ∧ k.2.2.length ≤ t.length := by
  have hq := oneM_ok hb h
  unfold oneM at h
  split at h
  · rename_i hl
    split at h
    · cases h
    · rename_i h32
      simp only [Except.ok.injEq, Prod.mk.injEq] at h
      obtain ⟨rfl, rfl⟩ := h
      refine ⟨.inl ⟨rfl, ?_, ?_, ?_⟩, cut_len⟩
      · obtain ⟨c, c1, c2⟩ := cut_cons (t := t) (i := a) (j := a + nameL (t.drop a.toNat)) ⟨hb.1, by omega, hq.2⟩
        exact ⟨c, _, c2, by rw [← c1]; exact hl⟩
      · intro c hc
        refine nameL_all (t.drop a.toNat) c ?_
        have : cut t a (a + nameL (t.drop a.toNat)) = (t.drop a.toNat).take (nameL (t.drop a.toNat)) := by
          unfold cut; congr 1; omega
        rw [← this]; exact hc
      · show (cut _ _ _).length ≤ 32
        unfold cut; rw [List.length_take]; omega
  · split at h
    · unfold quotedM at h
      split at h
      · rename_i he
        have h1 := quotedF_size he
        have h2 := quotedF_ok he
        simp only [Except.ok.injEq, Prod.mk.injEq] at h
        obtain ⟨rfl, rfl⟩ := h
        refine ⟨.inr (.inl rfl), ?_⟩
        simp only [List.length_nil] at h1
        dsimp only
        omega
      · cases h
    · split at h
      · unfold regexM at h
        split at h
        · rename_i he
          have h1 := regexF_good (by omega) he
          have h2 := regexF_ok he
          simp only [Except.ok.injEq, Prod.mk.injEq] at h
          obtain ⟨rfl, rfl⟩ := h
          refine ⟨.inr (.inr (.inl ⟨rfl, ?_⟩)), ?_⟩
          · show Rx _
            rw [h1.1]; exact h1.2
          · show List.length _ ≤ _
            rw [h1.1]; exact cut_len
        · cases h
      · split at h
        · rename_i hm
          simp only [Except.ok.injEq, Prod.mk.injEq] at h
          obtain ⟨rfl, rfl⟩ := h
          obtain ⟨c, c1, c2⟩ := cut_cons (t := t) (i := a) (j := a + 1) ⟨hb.1, by omega, by omega⟩
          refine ⟨.inr (.inr (.inr ⟨rfl, .inl ⟨c, ?_, ?_⟩⟩)), cut_len⟩
          · show cut t a (a + 1) = [c]
            rw [c2, cut_nil]
          · rw [bt_toNat c1] at hm; exact hm
        · split at h
          · rename_i h62
            simp only [Except.ok.injEq, Prod.mk.injEq] at h
            obtain ⟨rfl, rfl⟩ := h
            exact ⟨.inr (.inr (.inr ⟨rfl, .inr rfl⟩)), by show 2 ≤ t.length; omega⟩
          · cases h
theorem scanF_good {t : List UInt8} : ∀ {n : Nat} {l l' : List Tok} {a : Int}, 0 ≤ a → a ≤ t.length → scanF t n l a = .ok l' → (∀ k ∈ l, Good k ∧ k.2.2.length ≤ t.length) → ∃ ks, l' = ks ++ [((0, (t.length : Int), []) : Tok)] ∧ ∀ k ∈ ks, Good k ∧ k.2.2.length ≤ t.length
  | 0, _, _, _, _, _, h, _ => by cases h
  | n + 1, l, l', a, h0, h1, h, hl => by
    rw [scanF] at h
    split at h
    · rename_i ha
      split at h
      · rename_i k q ho
        have hq := oneM_ok ⟨h0, ha⟩ ho
        have hg := gapM_bd (t := t) (a := q) ⟨by omega, hq.2⟩
        have hk := oneM_good ⟨h0, ha⟩ ho
        exact scanF_good (by omega) hg.2 h fun x hx => by
          rcases List.mem_append.1 hx with hx | hx
          · exact hl x hx
          · rw [List.mem_singleton.1 hx]; exact hk
      · cases h
    · simp only [Except.ok.injEq] at h
      exact ⟨l, h.symm, hl⟩

/-! ### back -/
theorem regexF_back {u : List UInt8} {fr : Int} {r : List UInt8} : ∀ {x : List UInt8}, Rx x → ∀ (n p : Nat), u.drop p = x ++ 47 :: r → x.length < n → regexF u fr n (p : Int) = .ok (cut u (fr + 1) ((p + x.length : Nat) : Int), ((p + x.length + 1 : Nat) : Int)) := by
  intro x hx
  induction hx with
  | nil =>
    intro n p h hn
    obtain ⟨n, rfl⟩ : ∃ m, n = m + 1 := ⟨n - 1, by simp only [List.length_nil] at hn; omega⟩
    obtain ⟨h1, h2, _⟩ := at_bt (v := r) h
    rw [regexF, if_pos h1, if_neg (by rw [h2]; simp), if_neg (by rw [h2]; decide), if_pos (by rw [h2]; rfl)]; rfl
  | esc d w hd hw ih =>
    intro n p h hn
    obtain ⟨n, rfl⟩ : ∃ m, n = m + 1 := ⟨n - 1, by simp only [List.length_cons] at hn; omega⟩
    obtain ⟨h1, h2, h3⟩ := at_bt (v := d :: w ++ 47 :: r) h
    obtain ⟨g1, g2, g3⟩ := at_bt (v := w ++ 47 :: r) h3
    rw [regexF, if_pos h1, if_pos ⟨by rw [h2]; rfl, by omega⟩, show (p : Int) + 1 = ((p + 1 : Nat) : Int) by omega, g2, if_neg (by rw [hd]; simp), show (p : Int) + 2 = ((p + 1 + 1 : Nat) : Int) by omega, ih n (p + 1 + 1) g3 (by simp only [List.length_cons] at hn; omega)]
    simp only [List.length_cons]
    rw [show p + 1 + 1 + w.length = p + (w.length + 1 + 1) by omega]
  | one c w hc h47 h92 hw ih =>
    intro n p h hn
    obtain ⟨n, rfl⟩ : ∃ m, n = m + 1 := ⟨n - 1, by simp only [List.length_cons] at hn; omega⟩
    obtain ⟨h1, h2, h3⟩ := at_bt (v := w ++ 47 :: r) h
    rw [regexF, if_pos h1, if_neg (fun e => h92 (UInt8.toNat_inj.1 (by have := e.1; rw [h2] at this; exact Int.ofNat.inj this))), h2, if_neg (by rw [hc]; simp), if_neg (fun e : (c.toNat : Int) = 47 => h47 (UInt8.toNat_inj.1 (by show c.toNat = 47; omega))), show (p : Int) + 1 = ((p + 1 : Nat) : Int) by omega, ih n (p + 1) h3 (by simp only [List.length_cons] at hn; omega)]
    simp only [List.length_cons]
    rw [show p + 1 + w.length = p + (w.length + 1) by omega]
theorem cut_at {u x r : List UInt8} {p : Nat} (h : u.drop p = x ++ r) : cut u (p : Int) ((p + x.length : Nat) : Int) = x := by
  unfold cut
  rw [Int.toNat_natCast, Int.toNat_natCast, h, show p + x.length - p = x.length by omega, List.take_left]
theorem drop_len {u x r : List UInt8} {p : Nat} (h : u.drop p = x ++ r) (hx : x ≠ []) : p + x.length + r.length = u.length := by
  have := congrArg List.length h
  rw [List.length_drop, List.length_append] at this
  have : 0 < x.length := by cases x <;> simp_all
  omega
/-- A token's text without the blank behind. -/
def bare (k : Tok) : List UInt8 := if k.1 = 2 then quoteL k.2.2 else if k.1 = 3 then [47] ++ k.2.2 ++ [47] else k.2.2
theorem show_bare {k : Tok} (h : Good k) : showTok k = bare k ++ [32] := by
  unfold showTok bare
  rcases h with h | h | h | h
  · rw [if_pos (.inl h.1), if_neg (by omega), if_neg (by omega)]
  · rw [if_neg (by omega), if_pos h, if_pos h]
  · rw [if_neg (by omega), if_neg (by omega), if_pos h.1, if_neg (by omega), if_pos h.1]; simp
  · rw [if_pos (.inr h.1), if_neg (by omega), if_neg (by omega)]
theorem qbs_ge : ∀ s : List UInt8, s.length ≤ (s.flatMap qb).length
  | [] => by simp
  | c :: s => by
    have : 1 ≤ (qb c).length := by
      unfold qb
      repeat' split
      all_goals simp
    have := qbs_ge s
    rw [List.flatMap_cons, List.length_append, List.length_cons]; omega
theorem marks_not : ∀ c ∈ marksL, letterB (c.toNat : Int) = false ∧ c ≠ 34 ∧ c ≠ 47 ∧ c ≠ 35 ∧ c ≠ 10 ∧ c ≠ 32 ∧ c ≠ 9 ∧ c ≠ 13 := by decide
theorem letter_not {c : UInt8} (h : letterB (c.toNat : Int) = true) : c ≠ 35 ∧ c ≠ 10 ∧ c ≠ 32 ∧ c ≠ 9 ∧ c ≠ 13 := by
  refine ⟨?_, ?_, ?_, ?_, ?_⟩ <;> rintro rfl <;> exact absurd h (by decide)
/-- What a good token begins with is neither blank nor comment. -/
theorem good_head {k : Tok} (h : Good k) : ∃ c r, bare k = c :: r ∧ c ≠ 35 ∧ c ≠ 10 ∧ c ≠ 32 ∧ c ≠ 9 ∧ c ≠ 13 := by
  unfold bare
  rcases h with ⟨h1, ⟨c, r, e, hl⟩, _⟩ | h | ⟨h1, _⟩ | ⟨h1, h2⟩
  · rw [if_neg (by omega), if_neg (by omega)]
    exact ⟨c, r, e, letter_not hl⟩
  · rw [if_pos h]
    exact ⟨34, _, rfl, by decide, by decide, by decide, by decide, by decide⟩
  · rw [if_neg (by omega), if_pos h1]
    exact ⟨47, _, rfl, by decide, by decide, by decide, by decide, by decide⟩
  · rw [if_neg (by omega), if_neg (by omega)]
    rcases h2 with ⟨c, e, hc⟩ | e
    · have := marks_not c (by simpa using hc)
      exact ⟨c, [], e, this.2.2.2⟩
    · exact ⟨62, [62], e, by decide, by decide, by decide, by decide, by decide⟩
theorem oneM_back {u r : List UInt8} {k : Tok} {p : Nat} (hk : Good k) (h : u.drop p = bare k ++ 32 :: r) : oneM u (p : Int) = .ok ((k.1, (p : Int), k.2.2), ((p + (bare k).length : Nat) : Int)) := by
  unfold bare at h ⊢
  rcases hk with ⟨h1, ⟨c, w, e, hl⟩, hall, h32⟩ | h1 | ⟨h1, hrx⟩ | ⟨h1, h2⟩
  · rw [if_neg (by omega), if_neg (by omega)] at h ⊢
    have hd := h
    rw [e] at hd
    obtain ⟨g1, g2, _⟩ := at_bt (v := w ++ 32 :: r) hd
    have hn : nameL (u.drop (p : Int).toNat) = k.2.2.length := by rw [Int.toNat_natCast, h]; exact nameL_back _ _ hall
    unfold oneM
    rw [g2, if_pos hl, hn, if_neg (by omega), show (p : Int) + (k.2.2.length : Int) = ((p + k.2.2.length : Nat) : Int) by omega, cut_at h, h1]
  · rw [if_pos h1] at h ⊢
    have hd : u.drop p = 34 :: (k.2.2.flatMap qb ++ 34 :: 32 :: r) := by rw [h]; unfold quoteL; simp
    obtain ⟨g1, g2, g3⟩ := at_bt hd
    have hlen := drop_len (x := k.2.2.flatMap qb ++ [34]) (r := 32 :: r) (p := p + 1) (by rw [g3]; simp) (by simp)
    have hge := qbs_ge k.2.2
    rw [List.length_append] at hlen
    simp only [List.length_cons, List.length_nil] at hlen
    unfold oneM
    rw [g2, if_neg (by decide), if_pos (by decide)]
    unfold quotedM
    rw [show (p : Int) + 1 = ((p + 1 : Nat) : Int) by omega, quotedF_back (r := 32 :: r) k.2.2 (u.length + 1) (p + 1) [] g3 (by omega)]
    simp only [List.nil_append, h1]
    unfold quoteL
    rw [List.length_append, List.length_append]
    simp only [List.length_cons, List.length_nil]
    rw [show p + 1 + (k.2.2.flatMap qb).length + 1 = p + (0 + 1 + (k.2.2.flatMap qb).length + (0 + 1)) by omega]
  · rw [if_neg (by omega), if_pos h1] at h ⊢
    have hd : u.drop p = 47 :: (k.2.2 ++ 47 :: 32 :: r) := by rw [h]; simp
    obtain ⟨g1, g2, g3⟩ := at_bt hd
    have hlen := drop_len (x := k.2.2 ++ [47]) (r := 32 :: r) (p := p + 1) (by rw [g3]; simp) (by simp)
    rw [List.length_append] at hlen
    simp only [List.length_cons, List.length_nil] at hlen
    unfold oneM
    rw [g2, if_neg (by decide), if_neg (by decide), if_pos (by decide)]
    unfold regexM
    rw [show (p : Int) + 1 = ((p + 1 : Nat) : Int) by omega, regexF_back (r := 32 :: r) hrx (u.length + 1) (p + 1) g3 (by omega)]
    simp only
    rw [show (p : Int) + 1 = ((p + 1 : Nat) : Int) by omega, cut_at g3, h1, List.length_append, List.length_append]
    simp only [List.length_cons, List.length_nil]
    rw [show p + 1 + k.2.2.length + 1 = p + (0 + 1 + k.2.2.length + (0 + 1)) by omega]
  · rw [if_neg (by omega), if_neg (by omega)] at h ⊢
    rcases h2 with ⟨c, e, hc⟩ | e
    · rw [e] at h ⊢
      obtain ⟨g1, g2, g3⟩ := at_bt (v := 32 :: r) h
      obtain ⟨m1, m2, m3, _⟩ := marks_not c (by simpa using hc)
      unfold oneM
      rw [g2, if_neg (by rw [m1]; simp), if_neg (fun x : (c.toNat : Int) = 34 => m2 (UInt8.toNat_inj.1 (by show c.toNat = 34; omega))), if_neg (fun x : (c.toNat : Int) = 47 => m3 (UInt8.toNat_inj.1 (by show c.toNat = 47; omega))), if_pos (by simpa using hc), h1]
      have := cut_at (x := [c]) (r := 32 :: r) h
      simp only [List.length_cons, List.length_nil] at this ⊢
      rw [show (p : Int) + 1 = ((p + (0 + 1) : Nat) : Int) by omega, this]
    · rw [e] at h ⊢
      obtain ⟨g1, g2, g3⟩ := at_bt (v := 62 :: 32 :: r) h
      obtain ⟨f1, f2, f3⟩ := at_bt (v := 32 :: r) g3
      unfold oneM
      rw [show (p : Int) + 1 = ((p + 1 : Nat) : Int) by omega, g2, f2, if_neg (by decide), if_neg (by decide), if_neg (by decide), if_neg (by decide), if_pos ⟨by omega, rfl, rfl⟩, h1]
      rfl
theorem gap_head {u r : List UInt8} {c : UInt8} {p : Nat} (h : u.drop p = c :: r) (hc : c ≠ 35 ∧ c ≠ 10 ∧ c ≠ 32 ∧ c ≠ 9 ∧ c ≠ 13) : gapM u (p : Int) = p := by
  unfold gapM
  rw [Int.toNat_natCast, h, gapL]
  simp [hc]
theorem gap_blank {u r : List UInt8} {p : Nat} (h : u.drop p = 32 :: r) : gapM u (p : Int) = gapM u ((p + 1 : Nat) : Int) := by
  unfold gapM
  obtain ⟨_, _, h3⟩ := at_bt h
  rw [Int.toNat_natCast, Int.toNat_natCast, h, h3, gapL]
  simp; omega
def kt (k : Tok) : Int × List UInt8 := (k.1, k.2.2)
theorem scanF_back {u : List UInt8} : ∀ (ks : List Tok) (n p : Nat) (l : List Tok), (∀ k ∈ ks, Good k) → u.drop p = showL ks → p ≤ u.length → u.length - p < n →
    ∃ l2, l2.map kt = ks.map kt ∧ scanF u n l (gapM u p) = .ok (l ++ l2 ++ [((0, (u.length : Int), []) : Tok)])
  | [], n, p, l, _, h, hp, hn => by
    obtain ⟨n, rfl⟩ : ∃ m, n = m + 1 := ⟨n - 1, by omega⟩
    have hp2 : u.length ≤ p := by
      have := congrArg List.length h
      rw [List.length_drop] at this
      simp [showL] at this; omega
    have hg : gapM u (p : Int) = u.length := by
      unfold gapM; rw [gap_end _ (by omega)]; simp; omega
    refine ⟨[], rfl, ?_⟩
    rw [hg, scanF, if_neg (by omega)]; simp
  | k :: ks, n, p, l, hk, h, hp, hn => by
    obtain ⟨n, rfl⟩ : ∃ m, n = m + 1 := ⟨n - 1, by omega⟩
    have hgk := hk k (by simp)
    have hd : u.drop p = bare k ++ 32 :: showL ks := by
      rw [h]; unfold showL
      rw [List.flatMap_cons, show_bare hgk]; simp
    obtain ⟨c, r, e, hc⟩ := good_head hgk
    have hne : bare k ≠ [] := by rw [e]; simp
    have hlen := drop_len hd hne
    have hpos : 0 < (bare k).length := by rw [e]; simp
    simp only [List.length_cons] at hlen
    have hd2 : u.drop (p + (bare k).length) = 32 :: showL ks := by rw [← List.drop_drop, hd, List.drop_left]
    obtain ⟨_, _, hd3⟩ := at_bt hd2
    obtain ⟨l2, e1, e2⟩ := scanF_back ks n (p + (bare k).length + 1) (l ++ [((k.1, (p : Int), k.2.2) : Tok)]) (fun x hx => hk x (by simp [hx])) hd3 (by omega) (by omega)
    refine ⟨(k.1, (p : Int), k.2.2) :: l2, by simp [e1, kt], ?_⟩
    rw [gap_head (by rw [hd, e]; rfl) hc, scanF, if_pos (by omega), oneM_back hgk hd]
    simp only
    rw [gap_blank hd2, e2]; simp
theorem scan_back {t : List UInt8} (h : (scanR t).2.1 = 0) (hl : t.length ≤ 4096) (hs : (showL (scanR t).1).length ≤ 4096) : ∃ m, scanR (showL (scanR t).1) = (m, 0, 0) ∧ m.map kt = (scanR t).1.map kt := by
  have hg := gapM_bd (t := t) (a := 0) ⟨by omega, by omega⟩
  obtain ⟨ks, e, hk⟩ := scanF_good hg.1 hg.2 (scanR_ok h hl) (fun k hk => by cases hk)
  have hshow : showL (scanR t).1 = showL ks := by
    rw [e]; unfold showL; rw [List.flatMap_append]
    simp [showTok]
  rw [hshow] at hs ⊢
  obtain ⟨l2, e1, e2⟩ := scanF_back (u := showL ks) ks ((showL ks).length + 1) 0 [] (fun k hx => (hk k hx).1) rfl (by omega) (by omega)
  refine ⟨l2 ++ [((0, ((showL ks).length : Int), []) : Tok)], ?_, by rw [e]; simp [e1, kt]⟩
  unfold scanR
  rw [if_neg (by omega)]
  have e2' : scanF (showL ks) ((showL ks).length + 1) [] (gapM (showL ks) 0) = _ := e2
  rw [e2']; simp
theorem showTok_kt {a b : Tok} (h : kt a = kt b) : showTok a = showTok b := by
  simp only [kt, Prod.mk.injEq] at h
  unfold showTok
  rw [h.1, h.2]
theorem showL_kt : ∀ {l m : List Tok}, l.map kt = m.map kt → showL l = showL m
  | [], [], _ => rfl
  | [], _ :: _, h => by simp at h
  | _ :: _, [], h => by simp at h
  | a :: l, b :: m, h => by
    simp only [List.map_cons, List.cons.injEq] at h
    have := showL_kt h.2
    unfold showL at this ⊢
    rw [List.flatMap_cons, List.flatMap_cons, showTok_kt h.1, this]
theorem scan_bd (t : List UInt8) : ShowBd (scanR t).1 := by
  have hl := scanR_len t
  refine ⟨by omega, ?_⟩
  by_cases h4 : 4096 < t.length
  · have : (scanR t).1 = [] := by unfold scanR; rw [if_pos h4]
    rw [this]; intro x hx; cases hx
  · by_cases h : (scanR t).2.1 = 0
    · have hg := gapM_bd (t := t) (a := 0) ⟨by omega, by omega⟩
      obtain ⟨ks, e, hk⟩ := scanF_good hg.1 hg.2 (scanR_ok h (by omega)) (fun k hk => by cases hk)
      rw [e]
      intro x hx
      rcases List.mem_append.1 hx with hx | hx
      · have := (hk x hx).2; omega
      · rw [List.mem_singleton.1 hx]; simp
    · have : (scanR t).1 = [] := by
        unfold scanR at h ⊢
        rw [if_neg h4] at h ⊢
        split at h
        · simp at h
        · rfl
      rw [this]; intro x hx; cases hx

end Go.Proofs.YtlfolgbaageknaaDoor
