/-
  The conditions and walks of the functions that read a set's text, 3; their contracts.
-/
import Derived.Test.YtkjnhjhkaaampaaDoorRdV2
namespace Go.Proofs.YtkjnhjhkaaampaaDoor
open Go Go.RowKit

theorem tf_zero_26 : zeroB Tryd.prog 26 = some (wl cs0) := by kernel_rfl
theorem tf_ent_31 : entB Tryd.prog 31 = true := by kernel_rfl
theorem tf_row_26 : RowT Tryd.prog 26 4 := ⟨by kernel_rfl, by kernel_rfl⟩
theorem tf_ent_32 : entB Tryd.prog 32 = true := by kernel_rfl
theorem tf_ent_37 : entB Tryd.prog 37 = true := by kernel_rfl
theorem tf_size_26 : sizeB Tryd.prog 26 4 = true := by kernel_rfl
theorem tf_ent_17 : entB Tryd.prog 17 = true := by kernel_rfl
theorem tf_ent_29 : entB Tryd.prog 29 = true := by kernel_rfl
theorem tf_ent_30 : entB Tryd.prog 30 = true := by kernel_rfl

def members_vc (r_0 : List UInt8) (r_1 : Int) (K : CS → (List UInt8) → Int → Prop) (KP : Value → (List UInt8) → Int → Prop) : Prop :=
  (0 ≤ r_1) ∧
  ∃ (J0 : Int → Prop),
    (∀ (r_1_1' : Int), J0 r_1_1' →
      ∃ (Inv : CS → Int → Prop) (mu : CS → Int → Nat),
        Inv cs0 r_1_1' ∧ ∀ (a_1' : CS) (r_1_5' : Int), Inv a_1' r_1_5' →
          (0 ≤ r_1_5') ∧
          (if ((peekOk r_0 r_1_5') && (decide (peekB r_0 r_1_5' = 93))) = true then
            (I64 (r_1_5' + 1)) ∧
            (if ((peekOk r_0 r_1) && (decide (peekB r_0 r_1 = 94))) = true then
              K (~~~ a_1') r_0 (r_1_5' + 1)
            else
              K a_1' r_0 (r_1_5' + 1))
          else
            (0 ≤ r_1_5' ∧ r_1_5' ≤ r_0.length ∧ r_0.length ≤ 9223372036854775807) ∧
            (∀ (r_7' : Int) (at0_12' : Int), oneM r_0 r_1_5' [92, 93, 91, 45, 94, 47] = .ok (r_7', at0_12') →
              ∃ (J0_3' : Int → Int → Prop),
                (∀ (hi_2' : Int) (r_1_6' : Int), J0_3' hi_2' r_1_6' →
                  ((0 ≤ r_7' ∧ r_7' < 256) ∧ (0 ≤ hi_2' ∧ hi_2' < 256)) ∧
                  Inv (a_1' ||| (spanS (r_7').toNat (hi_2').toNat)) r_1_6' ∧ mu (a_1' ||| (spanS (r_7').toNat (hi_2').toNat)) r_1_6' < mu a_1' r_1_5') ∧
                (0 ≤ at0_12') ∧
                (if ((peekOk r_0 at0_12') && (decide (peekB r_0 at0_12' = 45))) = true then
                  (I64 (at0_12' + 1)) ∧
                  (0 ≤ at0_12' + 1 ∧ at0_12' + 1 ≤ r_0.length ∧ r_0.length ≤ 9223372036854775807) ∧
                  (∀ (r_9' : Int) (at0_16' : Int), oneM r_0 (at0_12' + 1) [92, 93, 91, 45, 94, 47] = .ok (r_9', at0_16') →
                    (if (decide (r_9' < r_7')) = true then
                      KP (faultV 10 (at0_12' + 1)) r_0 at0_16'
                    else
                      J0_3' r_9' at0_16')) ∧
                  (∀ (e_8' : Int) (at0_17' : Int), oneM r_0 (at0_12' + 1) [92, 93, 91, 45, 94, 47] = .error e_8' →
                    KP (faultV 10 e_8') r_0 at0_17')
                else
                  J0_3' r_7' at0_12')) ∧
            (∀ (e_6' : Int) (at0_13' : Int), oneM r_0 r_1_5' [92, 93, 91, 45, 94, 47] = .error e_6' →
              KP (faultV 10 e_6') r_0 at0_13'))) ∧
    (if ((peekOk r_0 r_1) && (decide (peekB r_0 r_1 = 94))) = true then
      (I64 (r_1 + 1)) ∧
      J0 (r_1 + 1)
    else
      J0 r_1)
set_option maxRecDepth 100000 in
theorem members_wp (b : Nat) (te : TypeId) (fre : Nat × Nat) (r_0 : List UInt8) (r_1 : Int) (K : CS → (List UInt8) → Int → Prop) (KP : Value → (List UInt8) → Int → Prop) (h : members_vc r_0 r_1 K KP) :
    Does Tryd.prog 30 [Value.pointer (some ⟨b, 0, none⟩)] [(0, .cells [Value.int .u8 110, Value.int .u8 10, Value.int .u8 114, Value.int .u8 13, Value.int .u8 116, Value.int .u8 9].toArray te fre)] [HA.blk b (.cells [st r_0, Value.int .i64 r_1].toArray 55 (0, 0))] (fun o => (∃ (v : CS) (d_0 : List UInt8) (d_1 : Int), K v d_0 d_1 ∧ o = .ret (Value.agg (wl v).toArray) [HA.blk b (.cells [st d_0, Value.int .i64 d_1].toArray 55 (0, 0))]) ∨ (∃ (pv : Value) (d_0 : List UInt8) (d_1 : Int), KP pv d_0 d_1 ∧ o = .pan [{ v := pv, recovered := false }] [HA.blk b (.cells [st d_0, Value.int .i64 d_1].toArray 55 (0, 0))])) := by
  unfold members_vc at h
  refine does_of_wc (n := 90) (L0 := [(0, Value.pointer (some ⟨b, 0, none⟩))]) Tryd.func30 rfl rfl rfl rfl (fun w0 M Q hE => ?_)
  refine wc_seq (fun K0 hK => ?_)
  refine wc_region ?_
  refine WL.make (MV.alloc tf_zero_26) rfl rfl rfl (fun b_1' => ?_)
  refine WL.nil ?_
  refine KX.go (hK [(0, Value.pointer (some ⟨b, 0, none⟩)), (2, Value.pointer (some ⟨b_1', 0, none⟩))] _ ?_) ⟨rfl, rfl, trivial⟩
  refine wc_seq (fun K0_1' hK_1' => ?_)
  refine wc_region ?_
  refine WL.make (MV.alloc tf_zero_26) rfl rfl rfl (fun b_2' => ?_)
  refine WL.nil ?_
  refine KX.go (hK_1' [(0, Value.pointer (some ⟨b, 0, none⟩)), (2, Value.pointer (some ⟨b_1', 0, none⟩)), (3, Value.pointer (some ⟨b_2', 0, none⟩))] _ ?_) ⟨rfl, rfl, rfl, trivial⟩
  refine wc_seq (fun K0_2' hK_2' => ?_)
  refine wc_region ?_
  refine WL.val (OV.move rfl) rfl rfl rfl ?_
  obtain ⟨o, h⟩ := h
  refine WL.call (A := []) tf_ent_35 rfl (peek_does b r_0 r_1 o) rfl ⟨.inl ⟨2, rfl⟩, trivial⟩ rfl rfl ?_
  refine WL.val (OV.move rfl) rfl rfl rfl ?_
  refine WL.val (OV.extract 0 rfl rfl) rfl rfl rfl ?_
  refine WL.val (OV.extract 1 rfl rfl) rfl rfl rfl ?_
  refine WL.val (OV.assign rfl) rfl rfl rfl ?_
  refine WL.val (OV.assign rfl) rfl rfl rfl ?_
  refine WL.nil ?_
  refine KX.go (hK_2' [(0, Value.pointer (some ⟨b, 0, none⟩)), (2, Value.pointer (some ⟨b_1', 0, none⟩)), (3, Value.pointer (some ⟨b_2', 0, none⟩)), (4, Value.int .u8 (peekB r_0 r_1)), (5, Value.bool (peekOk r_0 r_1))] _ ?_) ⟨rfl, rfl, rfl, rfl, rfl, trivial⟩
  refine wc_seq (fun K0_3' hK_3' => ?_)
  refine wc_region ?_
  refine WL.val (OV.move rfl) rfl rfl rfl ?_
  refine WL.val (OV.move rfl) rfl rfl rfl ?_
  refine WL.cut 3 [(0, Value.pointer (some ⟨b, 0, none⟩)), (2, Value.pointer (some ⟨b_1', 0, none⟩)), (3, Value.pointer (some ⟨b_2', 0, none⟩)), (23, Value.bool ((peekOk r_0 r_1) && (decide (peekB r_0 r_1 = 94))))] ?_ (fun K0_4' hK_4' => ?_)
  rotate_left
  · refine WL.split (peekOk r_0 r_1) (fun hb => ?_) (fun hb => ?_)
    · refine WL.set 20 rfl (congrArg Value.bool hb) ?_
      refine WL.val (OV.move rfl) rfl rfl rfl ?_
      refine WL.val (OV.eql rfl rfl) rfl rfl rfl ?_
      refine WL.val (OV.pickT rfl rfl) rfl rfl rfl ?_
      refine WL.set 23 rfl (bT (v := decide (peekB r_0 r_1 = 94)) hb) ?_
      exact WL.end_ (KX.go hK_4' ⟨rfl, rfl, rfl, rfl, trivial⟩)
    · refine WL.set 20 rfl (congrArg Value.bool hb) ?_
      refine WL.skip rfl rfl rfl ?_
      refine WL.skip rfl rfl rfl ?_
      refine WL.val (OV.pickF rfl rfl) rfl rfl rfl ?_
      refine WL.set 23 rfl (bF (v := decide (peekB r_0 r_1 = 94)) hb) ?_
      exact WL.end_ (KX.go hK_4' ⟨rfl, rfl, rfl, rfl, trivial⟩)
  refine WL.val (OV.assign rfl) rfl rfl rfl ?_
  refine WL.nil ?_
  refine KX.go (hK_3' [(0, Value.pointer (some ⟨b, 0, none⟩)), (2, Value.pointer (some ⟨b_1', 0, none⟩)), (3, Value.pointer (some ⟨b_2', 0, none⟩)), (6, Value.bool ((peekOk r_0 r_1) && (decide (peekB r_0 r_1 = 94))))] _ ?_) ⟨rfl, rfl, rfl, rfl, trivial⟩
  obtain ⟨J0, hJ, h⟩ := h
  refine wc_seqJ (X := Int) (fun s => J0 s) (fun s => [(0, Value.pointer (some ⟨b, 0, none⟩)), (2, Value.pointer (some ⟨b_1', 0, none⟩)), (3, Value.pointer (some ⟨b_2', 0, none⟩)), (6, Value.bool ((peekOk r_0 r_1) && (decide (peekB r_0 r_1 = 94))))]) (fun s => [HA.blk b_2' (.cells (wl cs0).toArray 26 (0, 0)), HA.blk b_1' (.cells (wl cs0).toArray 26 (0, 0)), HA.blk b (.cells [st r_0, Value.int .i64 s].toArray 55 (0, 0))]) ?_ (fun K0_6' hK_6' => ?_)
  · rintro r_1_1' hj
    replace h := hJ r_1_1' hj
    show WC _ _ _ _ [(0, Value.pointer (some ⟨b, 0, none⟩)), (2, Value.pointer (some ⟨b_1', 0, none⟩)), (3, Value.pointer (some ⟨b_2', 0, none⟩)), (6, Value.bool ((peekOk r_0 r_1) && (decide (peekB r_0 r_1 = 94))))] [HA.blk b_2' (.cells (wl cs0).toArray 26 (0, 0)), HA.blk b_1' (.cells (wl cs0).toArray 26 (0, 0)), HA.blk b (.cells [st r_0, Value.int .i64 r_1_1'].toArray 55 (0, 0))]
    refine wc_seq (fun K0_7' hK_7' => ?_)
    refine wc_block ?_
    obtain ⟨Inv, mu, h0, hr⟩ := h
    refine wc_loop (S := CS × Int) (fun s => Inv s.1 s.2) (fun s => mu s.1 s.2) (fun s => [(0, Value.pointer (some ⟨b, 0, none⟩)), (2, Value.pointer (some ⟨b_1', 0, none⟩)), (3, Value.pointer (some ⟨b_2', 0, none⟩)), (6, Value.bool ((peekOk r_0 r_1) && (decide (peekB r_0 r_1 = 94))))]) (fun s => [HA.blk b_2' (.cells (wl s.1).toArray 26 (0, 0)), HA.blk b_1' (.cells (wl cs0).toArray 26 (0, 0)), HA.blk b (.cells [st r_0, Value.int .i64 s.2].toArray 55 (0, 0))]) (cs0, r_1_1') h0 ⟨rfl, rfl, rfl, rfl, trivial⟩ rfl ?_
    rintro ⟨a_1', r_1_5'⟩ hi K0_52' hK_52'
    have h := hr a_1' r_1_5' hi
    show WC _ _ _ _ [(0, Value.pointer (some ⟨b, 0, none⟩)), (2, Value.pointer (some ⟨b_1', 0, none⟩)), (3, Value.pointer (some ⟨b_2', 0, none⟩)), (6, Value.bool ((peekOk r_0 r_1) && (decide (peekB r_0 r_1 = 94))))] [HA.blk b_2' (.cells (wl a_1').toArray 26 (0, 0)), HA.blk b_1' (.cells (wl cs0).toArray 26 (0, 0)), HA.blk b (.cells [st r_0, Value.int .i64 r_1_5'].toArray 55 (0, 0))]
    refine wc_block ?_
    refine wc_seq (fun K0_53' hK_53' => ?_)
    refine wc_seq (fun K0_54' hK_54' => ?_)
    refine wc_region ?_
    refine WL.val (OV.move rfl) rfl rfl rfl ?_
    obtain ⟨o_29', h⟩ := h
    refine WL.call (A := []) tf_ent_35 rfl (peek_does b r_0 r_1_5' o_29') rfl ⟨.inl ⟨2, rfl⟩, trivial⟩ rfl rfl ?_
    refine WL.val (OV.move rfl) rfl rfl rfl ?_
    refine WL.val (OV.extract 0 rfl rfl) rfl rfl rfl ?_
    refine WL.val (OV.extract 1 rfl rfl) rfl rfl rfl ?_
    refine WL.val (OV.assign rfl) rfl rfl rfl ?_
    refine WL.val (OV.assign rfl) rfl rfl rfl ?_
    refine WL.nil ?_
    refine KX.go (hK_54' [(0, Value.pointer (some ⟨b, 0, none⟩)), (2, Value.pointer (some ⟨b_1', 0, none⟩)), (3, Value.pointer (some ⟨b_2', 0, none⟩)), (6, Value.bool ((peekOk r_0 r_1) && (decide (peekB r_0 r_1 = 94)))), (7, Value.int .u8 (peekB r_0 r_1_5')), (8, Value.bool (peekOk r_0 r_1_5'))] _ ?_) ⟨rfl, rfl, rfl, rfl, rfl, rfl, trivial⟩
    refine wc_seq (fun K0_55' hK_55' => ?_)
    refine wc_region ?_
    refine WL.val (OV.move rfl) rfl rfl rfl ?_
    refine WL.val (OV.move rfl) rfl rfl rfl ?_
    refine WL.cut 3 [(0, Value.pointer (some ⟨b, 0, none⟩)), (2, Value.pointer (some ⟨b_1', 0, none⟩)), (3, Value.pointer (some ⟨b_2', 0, none⟩)), (6, Value.bool ((peekOk r_0 r_1) && (decide (peekB r_0 r_1 = 94)))), (41, Value.bool ((peekOk r_0 r_1_5') && (decide (peekB r_0 r_1_5' = 93))))] ?_ (fun K0_56' hK_56' => ?_)
    rotate_left
    · refine WL.split (peekOk r_0 r_1_5') (fun hb => ?_) (fun hb => ?_)
      · refine WL.set 38 rfl (congrArg Value.bool hb) ?_
        refine WL.val (OV.move rfl) rfl rfl rfl ?_
        refine WL.val (OV.eql rfl rfl) rfl rfl rfl ?_
        refine WL.val (OV.pickT rfl rfl) rfl rfl rfl ?_
        refine WL.set 41 rfl (bT (v := decide (peekB r_0 r_1_5' = 93)) hb) ?_
        exact WL.end_ (KX.go hK_56' ⟨rfl, rfl, rfl, rfl, rfl, trivial⟩)
      · refine WL.set 38 rfl (congrArg Value.bool hb) ?_
        refine WL.skip rfl rfl rfl ?_
        refine WL.skip rfl rfl rfl ?_
        refine WL.val (OV.pickF rfl rfl) rfl rfl rfl ?_
        refine WL.set 41 rfl (bF (v := decide (peekB r_0 r_1_5' = 93)) hb) ?_
        exact WL.end_ (KX.go hK_56' ⟨rfl, rfl, rfl, rfl, rfl, trivial⟩)
    refine WL.nil ?_
    refine KX.go (hK_55' [(0, Value.pointer (some ⟨b, 0, none⟩)), (2, Value.pointer (some ⟨b_1', 0, none⟩)), (3, Value.pointer (some ⟨b_2', 0, none⟩)), (6, Value.bool ((peekOk r_0 r_1) && (decide (peekB r_0 r_1 = 94)))), (41, Value.bool ((peekOk r_0 r_1_5') && (decide (peekB r_0 r_1_5' = 93))))] _ ?_) ⟨rfl, rfl, rfl, rfl, rfl, trivial⟩
    refine wc_cond (b := (peekOk r_0 r_1_5') && (decide (peekB r_0 r_1_5' = 93))) rfl (fun hb => ?_) (fun hb => ?_)
    · replace h := if_T h hb
      refine wc_seq (fun K0_57' hK_57' => ?_)
      refine wc_region ?_
      refine WL.val (OV.move rfl) rfl rfl rfl ?_
      refine WL.val (OV.nilCheck rfl) rfl rfl rfl ?_
      refine WL.val (OV.fieldAddr0 rfl tf_field_55_1) rfl rfl rfl ?_
      refine WL.val (OV.load rfl (At.own 2 rfl) rfl tf_scal_3) rfl rfl rfl ?_
      obtain ⟨o_31', h⟩ := h
      refine WL.val (OV.add rfl rfl o_31') rfl rfl rfl ?_
      refine WL.val (OV.nilCheck rfl) rfl rfl rfl ?_
      refine WL.val (OV.fieldAddr0 rfl tf_field_55_1) rfl rfl rfl ?_
      refine WL.store (vs := [Value.int .i64 (r_1_5' + 1)]) (cs' := [st r_0, Value.int .i64 (r_1_5' + 1)]) 2 rfl rfl rfl rfl tf_size_3 (Nat.le_of_ble_eq_true rfl) rfl rfl rfl ?_
      refine WL.nil ?_
      refine KX.go (hK_57' [(2, Value.pointer (some ⟨b_1', 0, none⟩)), (3, Value.pointer (some ⟨b_2', 0, none⟩)), (6, Value.bool ((peekOk r_0 r_1) && (decide (peekB r_0 r_1 = 94))))] _ ?_) ⟨rfl, rfl, rfl, trivial⟩
      refine wc_exit ?_
      refine KX.go (hK_7' [(2, Value.pointer (some ⟨b_1', 0, none⟩)), (3, Value.pointer (some ⟨b_2', 0, none⟩)), (6, Value.bool ((peekOk r_0 r_1) && (decide (peekB r_0 r_1 = 94))))] _ ?_) ⟨rfl, rfl, rfl, trivial⟩
      refine wc_seq (fun K0_58' hK_58' => ?_)
      refine wc_seq (fun K0_59' hK_59' => ?_)
      refine wc_region ?_
      refine WL.val (OV.move rfl) rfl rfl rfl ?_
      refine WL.nil ?_
      refine KX.go (hK_59' [(2, Value.pointer (some ⟨b_1', 0, none⟩)), (3, Value.pointer (some ⟨b_2', 0, none⟩)), (86, Value.bool ((peekOk r_0 r_1) && (decide (peekB r_0 r_1 = 94))))] _ ?_) ⟨rfl, rfl, rfl, trivial⟩
      refine wc_cond (b := (peekOk r_0 r_1) && (decide (peekB r_0 r_1 = 94))) rfl (fun hb => ?_) (fun hb => ?_)
      · replace h := if_T h hb
        refine wc_seq (fun K0_60' hK_60' => ?_)
        refine wc_region ?_
        refine WL.val (OV.loadR rfl (At.own 0 rfl) tf_row_26) rfl rfl rfl ?_
        refine WL.call (A := []) tf_ent_17 rfl (not_does a_1') rfl trivial rfl rfl ?_
        refine WL.storeW (vs := wl (~~~ a_1')) 1 rfl rfl rfl rfl rfl tf_size_26 rfl rfl rfl ?_
        refine WL.nil ?_
        refine KX.go (hK_60' [(2, Value.pointer (some ⟨b_1', 0, none⟩))] _ ?_) ⟨rfl, trivial⟩
        refine wc_ret ?_
        exact hE.ret [2] rfl rfl (.inl ⟨_, _, _, h, rfl⟩) (ResV.of1 rfl (RV.row rfl (At.own 1 rfl) tf_row_26))
      · replace h := if_F h hb
        refine wc_skip ?_
        refine KX.go (hK_58' [(2, Value.pointer (some ⟨b_1', 0, none⟩)), (3, Value.pointer (some ⟨b_2', 0, none⟩))] _ ?_) ⟨rfl, rfl, trivial⟩
        refine wc_seq (fun K0_61' hK_61' => ?_)
        refine wc_region ?_
        refine WL.val (OV.loadR rfl (At.own 0 rfl) tf_row_26) rfl rfl rfl ?_
        refine WL.storeW (vs := wl a_1') 1 rfl rfl rfl rfl rfl tf_size_26 rfl rfl rfl ?_
        refine WL.nil ?_
        refine KX.go (hK_61' [(2, Value.pointer (some ⟨b_1', 0, none⟩))] _ ?_) ⟨rfl, trivial⟩
        refine wc_ret ?_
        exact hE.ret [2] rfl rfl (.inl ⟨_, _, _, h, rfl⟩) (ResV.of1 rfl (RV.row rfl (At.own 1 rfl) tf_row_26))
    · replace h := if_F h hb
      refine wc_skip ?_
      refine KX.go (hK_53' [(0, Value.pointer (some ⟨b, 0, none⟩)), (2, Value.pointer (some ⟨b_1', 0, none⟩)), (3, Value.pointer (some ⟨b_2', 0, none⟩)), (6, Value.bool ((peekOk r_0 r_1) && (decide (peekB r_0 r_1 = 94))))] _ ?_) ⟨rfl, rfl, rfl, rfl, trivial⟩
      refine wc_seq (fun K0_62' hK_62' => ?_)
      refine wc_region ?_
      refine WL.val (OV.move rfl) rfl rfl rfl ?_
      obtain ⟨o_32', h⟩ := h
      refine WL.pick (H' := [HA.blk b (.cells [st r_0, Value.int .i64 r_1_5'].toArray 55 (0, 0)), HA.blk b_2' (.cells (wl a_1').toArray 26 (0, 0)), HA.blk b_1' (.cells (wl cs0).toArray 26 (0, 0))]) [2, 0, 1] rfl rfl ?_
      refine WL.callS tf_ent_31 rfl (one_does b te fre r_0 r_1_5' [92, 93, 91, 45, 94, 47] o_32') rfl ⟨.inr (List.mem_of_getElem? (i := 0) rfl), trivial⟩ rfl rfl (fun r H' hS => ?_) (fun c H' hS => ?_)
      · rcases hS with ⟨r_7', at0_12', hc, ho⟩ | ⟨e_6', at0_13', hc, ho⟩ <;> cases ho
        replace h := h.1 r_7' at0_12' hc
        refine WL.val (OV.assign rfl) rfl rfl rfl ?_
        refine WL.nil ?_
        refine KX.go (hK_62' [(0, Value.pointer (some ⟨b, 0, none⟩)), (2, Value.pointer (some ⟨b_1', 0, none⟩)), (3, Value.pointer (some ⟨b_2', 0, none⟩)), (6, Value.bool ((peekOk r_0 r_1) && (decide (peekB r_0 r_1 = 94)))), (9, Value.int .u8 r_7')] _ ?_) ⟨rfl, rfl, rfl, rfl, rfl, trivial⟩
        refine wc_seq (fun K0_63' hK_63' => ?_)
        refine wc_region ?_
        refine WL.val (OV.move rfl) rfl rfl rfl ?_
        refine WL.val (OV.assign rfl) rfl rfl rfl ?_
        refine WL.nil ?_
        refine KX.go (hK_63' [(0, Value.pointer (some ⟨b, 0, none⟩)), (2, Value.pointer (some ⟨b_1', 0, none⟩)), (3, Value.pointer (some ⟨b_2', 0, none⟩)), (6, Value.bool ((peekOk r_0 r_1) && (decide (peekB r_0 r_1 = 94)))), (9, Value.int .u8 r_7'), (10, Value.int .u8 r_7')] _ ?_) ⟨rfl, rfl, rfl, rfl, rfl, rfl, trivial⟩
        obtain ⟨J0_3', hJ_3', h⟩ := h
        refine wc_seqJ (X := Int × Int) (fun s => J0_3' s.1 s.2) (fun s => [(0, Value.pointer (some ⟨b, 0, none⟩)), (2, Value.pointer (some ⟨b_1', 0, none⟩)), (3, Value.pointer (some ⟨b_2', 0, none⟩)), (6, Value.bool ((peekOk r_0 r_1) && (decide (peekB r_0 r_1 = 94)))), (9, Value.int .u8 r_7'), (10, Value.int .u8 s.1)]) (fun s => [HA.blk b (.cells [st r_0, Value.int .i64 s.2].toArray 55 (0, 0)), HA.blk b_2' (.cells (wl a_1').toArray 26 (0, 0)), HA.blk b_1' (.cells (wl cs0).toArray 26 (0, 0))]) ?_ (fun K0_71' hK_71' => ?_)
        · rintro ⟨hi_2', r_1_6'⟩ hj
          replace h := hJ_3' hi_2' r_1_6' hj
          show WC _ _ _ _ [(0, Value.pointer (some ⟨b, 0, none⟩)), (2, Value.pointer (some ⟨b_1', 0, none⟩)), (3, Value.pointer (some ⟨b_2', 0, none⟩)), (6, Value.bool ((peekOk r_0 r_1) && (decide (peekB r_0 r_1 = 94)))), (9, Value.int .u8 r_7'), (10, Value.int .u8 hi_2')] [HA.blk b (.cells [st r_0, Value.int .i64 r_1_6'].toArray 55 (0, 0)), HA.blk b_2' (.cells (wl a_1').toArray 26 (0, 0)), HA.blk b_1' (.cells (wl cs0).toArray 26 (0, 0))]
          refine wc_draw 4 [] tf_mixed (by kernel_rfl) rfl (fun T_2' hT_2' => ?_)
          refine FL.val (fun _ => OV.loadR rfl (At.own 1 rfl) tf_row_26) rfl (fun _ => rfl) rfl rfl ?_
          refine FL.val (fun _ => OV.move rfl) rfl (fun _ => rfl) rfl rfl ?_
          refine FL.val (fun _ => OV.move rfl) rfl (fun _ => rfl) rfl rfl ?_
          obtain ⟨o_37', h⟩ := h
          refine FL.call tf_ent_32 (fun _ => rfl) (span_does r_7' hi_2' o_37') trivial rfl (fun _ => rfl) rfl ?_
          refine FL.weak (L' := fun γ => [(0, Value.pointer (some ⟨b, 0, none⟩)), (2, Value.pointer (some ⟨b_1', 0, none⟩)), (3, Value.pointer (some ⟨b_2', 0, none⟩)), (6, Value.bool ((peekOk r_0 r_1) && (decide (peekB r_0 r_1 = 94)))), (81, Value.agg (wl a_1').toArray), (84, Value.agg (wl (spanS (r_7').toNat (hi_2').toNat)).toArray)]) (fun γ => ⟨rfl, rfl, rfl, rfl, rfl, rfl, trivial⟩) (FL.nil (hT_2' (fun γ => [(0, Value.pointer (some ⟨b, 0, none⟩)), (2, Value.pointer (some ⟨b_1', 0, none⟩)), (3, Value.pointer (some ⟨b_2', 0, none⟩)), (6, Value.bool ((peekOk r_0 r_1) && (decide (peekB r_0 r_1 = 94)))), (81, Value.agg (wl a_1').toArray), (84, Value.agg (wl (spanS (r_7').toNat (hi_2').toNat)).toArray)]) (fun γ => ?_)))
          refine WL.call (A := []) tf_ent_37 rfl (union_does a_1' (spanS (r_7').toNat (hi_2').toNat)) rfl trivial rfl rfl ?_
          refine WL.storeW (vs := wl (a_1' ||| (spanS (r_7').toNat (hi_2').toNat))) 1 rfl rfl rfl rfl rfl tf_size_26 rfl rfl rfl ?_
          refine WL.nil ?_
          exact KX.goH (hK_52' (a_1' ||| (spanS (r_7').toNat (hi_2').toNat), r_1_6') h.1 h.2) ⟨rfl, rfl, rfl, rfl, trivial⟩ [1, 2, 0] rfl rfl
        · skip
          refine wc_seq (fun K0_72' hK_72' => ?_)
          refine wc_region ?_
          refine WL.val (OV.move rfl) rfl rfl rfl ?_
          obtain ⟨o_38', h⟩ := h
          refine WL.call (A := []) tf_ent_35 rfl (peek_does b r_0 at0_12' o_38') rfl ⟨.inl ⟨0, rfl⟩, trivial⟩ rfl rfl ?_
          refine WL.val (OV.move rfl) rfl rfl rfl ?_
          refine WL.val (OV.extract 0 rfl rfl) rfl rfl rfl ?_
          refine WL.val (OV.extract 1 rfl rfl) rfl rfl rfl ?_
          refine WL.val (OV.assign rfl) rfl rfl rfl ?_
          refine WL.val (OV.assign rfl) rfl rfl rfl ?_
          refine WL.nil ?_
          refine KX.go (hK_72' [(0, Value.pointer (some ⟨b, 0, none⟩)), (2, Value.pointer (some ⟨b_1', 0, none⟩)), (3, Value.pointer (some ⟨b_2', 0, none⟩)), (6, Value.bool ((peekOk r_0 r_1) && (decide (peekB r_0 r_1 = 94)))), (9, Value.int .u8 r_7'), (10, Value.int .u8 r_7'), (11, Value.int .u8 (peekB r_0 at0_12')), (12, Value.bool (peekOk r_0 at0_12'))] _ ?_) ⟨rfl, rfl, rfl, rfl, rfl, rfl, rfl, rfl, trivial⟩
          refine wc_seq (fun K0_73' hK_73' => ?_)
          refine wc_region ?_
          refine WL.val (OV.move rfl) rfl rfl rfl ?_
          refine WL.val (OV.move rfl) rfl rfl rfl ?_
          refine WL.cut 3 [(0, Value.pointer (some ⟨b, 0, none⟩)), (2, Value.pointer (some ⟨b_1', 0, none⟩)), (3, Value.pointer (some ⟨b_2', 0, none⟩)), (6, Value.bool ((peekOk r_0 r_1) && (decide (peekB r_0 r_1 = 94)))), (9, Value.int .u8 r_7'), (10, Value.int .u8 r_7'), (61, Value.bool ((peekOk r_0 at0_12') && (decide (peekB r_0 at0_12' = 45))))] ?_ (fun K0_74' hK_74' => ?_)
          rotate_left
          · refine WL.split (peekOk r_0 at0_12') (fun hb => ?_) (fun hb => ?_)
            · refine WL.set 58 rfl (congrArg Value.bool hb) ?_
              refine WL.val (OV.move rfl) rfl rfl rfl ?_
              refine WL.val (OV.eql rfl rfl) rfl rfl rfl ?_
              refine WL.val (OV.pickT rfl rfl) rfl rfl rfl ?_
              refine WL.set 61 rfl (bT (v := decide (peekB r_0 at0_12' = 45)) hb) ?_
              exact WL.end_ (KX.go hK_74' ⟨rfl, rfl, rfl, rfl, rfl, rfl, rfl, trivial⟩)
            · refine WL.set 58 rfl (congrArg Value.bool hb) ?_
              refine WL.skip rfl rfl rfl ?_
              refine WL.skip rfl rfl rfl ?_
              refine WL.val (OV.pickF rfl rfl) rfl rfl rfl ?_
              refine WL.set 61 rfl (bF (v := decide (peekB r_0 at0_12' = 45)) hb) ?_
              exact WL.end_ (KX.go hK_74' ⟨rfl, rfl, rfl, rfl, rfl, rfl, rfl, trivial⟩)
          refine WL.nil ?_
          refine KX.go (hK_73' [(0, Value.pointer (some ⟨b, 0, none⟩)), (2, Value.pointer (some ⟨b_1', 0, none⟩)), (3, Value.pointer (some ⟨b_2', 0, none⟩)), (6, Value.bool ((peekOk r_0 r_1) && (decide (peekB r_0 r_1 = 94)))), (9, Value.int .u8 r_7'), (10, Value.int .u8 r_7'), (61, Value.bool ((peekOk r_0 at0_12') && (decide (peekB r_0 at0_12' = 45))))] _ ?_) ⟨rfl, rfl, rfl, rfl, rfl, rfl, rfl, trivial⟩
          refine wc_cond (b := (peekOk r_0 at0_12') && (decide (peekB r_0 at0_12' = 45))) rfl (fun hb => ?_) (fun hb => ?_)
          · replace h := if_T h hb
            refine wc_seq (fun K0_75' hK_75' => ?_)
            refine wc_region ?_
            refine WL.val (OV.move rfl) rfl rfl rfl ?_
            refine WL.val (OV.nilCheck rfl) rfl rfl rfl ?_
            refine WL.val (OV.fieldAddr0 rfl tf_field_55_1) rfl rfl rfl ?_
            refine WL.val (OV.load rfl (At.own 0 rfl) rfl tf_scal_3) rfl rfl rfl ?_
            obtain ⟨o_40', h⟩ := h
            refine WL.val (OV.add rfl rfl o_40') rfl rfl rfl ?_
            refine WL.val (OV.nilCheck rfl) rfl rfl rfl ?_
            refine WL.val (OV.fieldAddr0 rfl tf_field_55_1) rfl rfl rfl ?_
            refine WL.store (vs := [Value.int .i64 (at0_12' + 1)]) (cs' := [st r_0, Value.int .i64 (at0_12' + 1)]) 0 rfl rfl rfl rfl tf_size_3 (Nat.le_of_ble_eq_true rfl) rfl rfl rfl ?_
            refine WL.nil ?_
            refine KX.go (hK_75' [(0, Value.pointer (some ⟨b, 0, none⟩)), (2, Value.pointer (some ⟨b_1', 0, none⟩)), (3, Value.pointer (some ⟨b_2', 0, none⟩)), (6, Value.bool ((peekOk r_0 r_1) && (decide (peekB r_0 r_1 = 94)))), (9, Value.int .u8 r_7')] _ ?_) ⟨rfl, rfl, rfl, rfl, rfl, trivial⟩
            refine wc_seq (fun K0_76' hK_76' => ?_)
            refine wc_region ?_
            refine WL.val (OV.move rfl) rfl rfl rfl ?_
            refine WL.val (OV.nilCheck rfl) rfl rfl rfl ?_
            refine WL.val (OV.fieldAddr0 rfl tf_field_55_1) rfl rfl rfl ?_
            refine WL.val (OV.load rfl (At.own 0 rfl) rfl tf_scal_3) rfl rfl rfl ?_
            refine WL.val (OV.assign rfl) rfl rfl rfl ?_
            refine WL.nil ?_
            refine KX.go (hK_76' [(0, Value.pointer (some ⟨b, 0, none⟩)), (2, Value.pointer (some ⟨b_1', 0, none⟩)), (3, Value.pointer (some ⟨b_2', 0, none⟩)), (6, Value.bool ((peekOk r_0 r_1) && (decide (peekB r_0 r_1 = 94)))), (9, Value.int .u8 r_7'), (13, Value.int .i64 (at0_12' + 1))] _ ?_) ⟨rfl, rfl, rfl, rfl, rfl, rfl, trivial⟩
            refine wc_seq (fun K0_77' hK_77' => ?_)
            refine wc_region ?_
            refine WL.val (OV.move rfl) rfl rfl rfl ?_
            obtain ⟨o_41', h⟩ := h
            refine WL.callS tf_ent_31 rfl (one_does b te fre r_0 (at0_12' + 1) [92, 93, 91, 45, 94, 47] o_41') rfl ⟨.inr (List.mem_of_getElem? (i := 0) rfl), trivial⟩ rfl rfl (fun r H' hS => ?_) (fun c H' hS => ?_)
            · rcases hS with ⟨r_9', at0_16', hc, ho⟩ | ⟨e_8', at0_17', hc, ho⟩ <;> cases ho
              replace h := h.1 r_9' at0_16' hc
              refine WL.val (OV.assign rfl) rfl rfl rfl ?_
              refine WL.nil ?_
              refine KX.go (hK_77' [(0, Value.pointer (some ⟨b, 0, none⟩)), (2, Value.pointer (some ⟨b_1', 0, none⟩)), (3, Value.pointer (some ⟨b_2', 0, none⟩)), (6, Value.bool ((peekOk r_0 r_1) && (decide (peekB r_0 r_1 = 94)))), (9, Value.int .u8 r_7'), (10, Value.int .u8 r_9'), (13, Value.int .i64 (at0_12' + 1))] _ ?_) ⟨rfl, rfl, rfl, rfl, rfl, rfl, rfl, trivial⟩
              refine wc_seq (fun K0_78' hK_78' => ?_)
              refine wc_region ?_
              refine WL.val (OV.move rfl) rfl rfl rfl ?_
              refine WL.val (OV.move rfl) rfl rfl rfl ?_
              refine WL.val (OV.lss rfl rfl) rfl rfl rfl ?_
              refine WL.nil ?_
              refine KX.go (hK_78' [(0, Value.pointer (some ⟨b, 0, none⟩)), (2, Value.pointer (some ⟨b_1', 0, none⟩)), (3, Value.pointer (some ⟨b_2', 0, none⟩)), (6, Value.bool ((peekOk r_0 r_1) && (decide (peekB r_0 r_1 = 94)))), (9, Value.int .u8 r_7'), (10, Value.int .u8 r_9'), (13, Value.int .i64 (at0_12' + 1)), (77, Value.bool (decide (r_9' < r_7')))] _ ?_) ⟨rfl, rfl, rfl, rfl, rfl, rfl, rfl, rfl, trivial⟩
              refine wc_cond (b := decide (r_9' < r_7')) rfl (fun hb => ?_) (fun hb => ?_)
              · replace h := if_T h hb
                refine wc_region ?_
                refine WL.val (OV.move rfl) rfl rfl rfl ?_
                refine WL.val (OV.move rfl) rfl rfl rfl ?_
                refine WL.callS tf_ent_36 rfl (fail_does b (at0_12' + 1)) rfl trivial rfl rfl (fun r H' hS => by cases hS) (fun c H' hS => ?_)
                cases hS
                exact hE.pan [0] rfl rfl (.inr ⟨_, _, _, h, rfl⟩)
              · replace h := if_F h hb
                refine wc_skip ?_
                exact KX.goH (hK_71' (r_9', at0_16') h) ⟨rfl, rfl, rfl, rfl, rfl, rfl, trivial⟩ [0, 1, 2] rfl rfl
            · rcases hS with ⟨r_9', at0_16', hc, ho⟩ | ⟨e_8', at0_17', hc, ho⟩ <;> cases ho
              replace h := h.2 e_8' at0_17' hc
              exact hE.pan [0] rfl rfl (.inr ⟨_, _, _, h, rfl⟩)
          · replace h := if_F h hb
            refine wc_skip ?_
            exact KX.goH (hK_71' (r_7', at0_12') h) ⟨rfl, rfl, rfl, rfl, rfl, rfl, trivial⟩ [0, 1, 2] rfl rfl
      · rcases hS with ⟨r_7', at0_12', hc, ho⟩ | ⟨e_6', at0_13', hc, ho⟩ <;> cases ho
        replace h := h.2 e_6' at0_13' hc
        exact hE.pan [0] rfl rfl (.inr ⟨_, _, _, h, rfl⟩)
  · skip
    refine wc_seq (fun K0_79' hK_79' => ?_)
    refine wc_region ?_
    refine WL.val (OV.move rfl) rfl rfl rfl ?_
    refine WL.nil ?_
    refine KX.go (hK_79' [(0, Value.pointer (some ⟨b, 0, none⟩)), (2, Value.pointer (some ⟨b_1', 0, none⟩)), (3, Value.pointer (some ⟨b_2', 0, none⟩)), (6, Value.bool ((peekOk r_0 r_1) && (decide (peekB r_0 r_1 = 94)))), (24, Value.bool ((peekOk r_0 r_1) && (decide (peekB r_0 r_1 = 94))))] _ ?_) ⟨rfl, rfl, rfl, rfl, rfl, trivial⟩
    refine wc_cond (b := (peekOk r_0 r_1) && (decide (peekB r_0 r_1 = 94))) rfl (fun hb => ?_) (fun hb => ?_)
    · replace h := if_T h hb
      refine wc_region ?_
      refine WL.val (OV.move rfl) rfl rfl rfl ?_
      refine WL.val (OV.nilCheck rfl) rfl rfl rfl ?_
      refine WL.val (OV.fieldAddr0 rfl tf_field_55_1) rfl rfl rfl ?_
      refine WL.val (OV.load rfl (At.own 2 rfl) rfl tf_scal_3) rfl rfl rfl ?_
      obtain ⟨o_42', h⟩ := h
      refine WL.val (OV.add rfl rfl o_42') rfl rfl rfl ?_
      refine WL.val (OV.nilCheck rfl) rfl rfl rfl ?_
      refine WL.val (OV.fieldAddr0 rfl tf_field_55_1) rfl rfl rfl ?_
      refine WL.store (vs := [Value.int .i64 (r_1 + 1)]) (cs' := [st r_0, Value.int .i64 (r_1 + 1)]) 2 rfl rfl rfl rfl tf_size_3 (Nat.le_of_ble_eq_true rfl) rfl rfl rfl ?_
      refine WL.nil ?_
      exact KX.goH (hK_6' (r_1 + 1) h) ⟨rfl, rfl, rfl, rfl, trivial⟩ [0, 1, 2] rfl rfl
    · replace h := if_F h hb
      refine wc_skip ?_
      exact KX.goH (hK_6' r_1 h) ⟨rfl, rfl, rfl, rfl, trivial⟩ [0, 1, 2] rfl rfl

/-- The members of a set, up to the closing bracket: with fuel. -/
def memF (t : List UInt8) : Nat → CS → Int → Except Int (CS × Int)
  | 0, _, a => .error a
  | n + 1, s, a =>
    if a < t.length ∧ peekB t a = 93 then .ok (s, a + 1)
    else match oneM t a inL with
      | .error e => .error e
      | .ok (lo, p) =>
        if p < t.length ∧ peekB t p = 45 then
          match oneM t (p + 1) inL with
          | .error e => .error e
          | .ok (hi, q) => if hi < lo then .error (p + 1) else memF t n (s ||| spanS lo.toNat hi.toNat) q
        else memF t n (s ||| spanS lo.toNat lo.toNat) p
def memM (t : List UInt8) (a : Int) : Except Int (CS × Int) :=
  if a < t.length ∧ peekB t a = 94 then
    match memF t (t.length + 1) cs0 (a + 1) with
    | .ok (s, q) => .ok (~~~ s, q)
    | .error e => .error e
  else memF t (t.length + 1) cs0 a
def RdOutS (b : Nat) (t : List UInt8) (m : Except Int (CS × Int)) : Out → Prop := fun o =>
  (∃ r q, m = .ok (r, q) ∧ o = .ret (.agg (wl r).toArray) [rdBlk b t q]) ∨ (∃ e q, m = .error e ∧ o = .pan [{ v := faultV 10 e, recovered := false }] [rdBlk b t q])

theorem escM_ok {t : List UInt8} {a r q : Int} (h : escM t a = .ok (r, q)) : 0 ≤ r ∧ r < 256 ∧ a < q ∧ q ≤ t.length := by
  have hb := peekB_bd t a
  unfold escM at h
  split at h
  · rename_i h1
    simp only at h
    repeat' split at h
    all_goals first
      | (cases h; done)
      | (cases h; omega)
      | skip
    rename_i hp _ _ _ hq
    have h3 := hexM_ok hp
    have h4 := hexM_ok hq
    cases h
    omega
  · cases h
theorem oneM_ok {t : List UInt8} {a r q : Int} {bar : List UInt8} (h : oneM t a bar = .ok (r, q)) : 0 ≤ r ∧ r < 256 ∧ a < q ∧ q ≤ t.length := by
  have hb := peekB_bd t a
  unfold oneM at h
  split at h
  · simp only at h
    split at h
    · have := escM_ok h; omega
    · split at h
      · cases h
      · cases h; omega
  · cases h
theorem members_does (b : Nat) (te : TypeId) (fre : Nat × Nat) (t : List UInt8) (a : Int) (h : 0 ≤ a ∧ a ≤ t.length ∧ t.length ≤ 9223372036854775807) : Does Tryd.prog 30 [.pointer (some ⟨b, 0, none⟩)] (escTab te fre) [rdBlk b t a] (RdOutS b t (memM t a)) := by
  refine (members_wp b te fre t a (fun r t' q => t' = t ∧ memM t a = .ok (r, q)) (fun v t' _ => t' = t ∧ ∃ e, memM t a = .error e ∧ v = faultV 10 e) ?_).weak ?_
  · unfold members_vc
    refine ⟨h.1, fun p => a ≤ p ∧ p ≤ t.length ∧ memM t a = (if a < t.length ∧ peekB t a = 94 then match memF t (t.length + 1) cs0 p with
        | .ok (s, q) => .ok (~~~ s, q)
        | .error e => .error e
      else memF t (t.length + 1) cs0 p), fun p hp => ?_, ?_⟩
    · obtain ⟨hp0, hpl, hM⟩ := hp
      obtain ⟨R, hR⟩ : ∃ R, memF t (t.length + 1) cs0 p = R := ⟨_, rfl⟩
      rw [hR] at hM
      refine ⟨fun s q => a ≤ q ∧ q ≤ t.length ∧ ∃ n, t.length - q.toNat < n ∧ R = memF t n s q, fun _ q => t.length - q.toNat, ⟨hp0, hpl, _, by omega, hR.symm⟩, ?_⟩
      rintro s q ⟨hq0, hql, n, hn, hF⟩
      obtain ⟨n, rfl⟩ : ∃ m, n = m + 1 := ⟨n - 1, by omega⟩
      rw [memF] at hF
      refine ⟨by omega, ?_⟩
      by_cases h1 : q < t.length ∧ peekB t q = 93
      · rw [if_pos (by simpa [peekOk] using h1)]
        rw [if_pos h1] at hF
        refine ⟨⟨by omega, by omega⟩, ?_⟩
        by_cases h2 : a < t.length ∧ peekB t a = 94
        · rw [if_pos (by simpa [peekOk] using h2)]
          rw [if_pos h2, hF] at hM
          exact ⟨rfl, hM⟩
        · rw [if_neg (by simpa [peekOk] using h2)]
          rw [if_neg h2, hF] at hM
          exact ⟨rfl, hM⟩
      · rw [if_neg (by simpa [peekOk] using h1)]
        rw [if_neg h1] at hF
        refine ⟨⟨by omega, hql, h.2.2⟩, fun lo p1 hlo => ?_, fun e p1 he => ?_⟩
        · have b1 := oneM_ok hlo
          rw [show ([92, 93, 91, 45, 94, 47] : List UInt8) = inL from rfl] at hlo
          rw [hlo] at hF
          simp only at hF
          refine ⟨fun hi q' => 0 ≤ hi ∧ hi < 256 ∧ q < q' ∧ q' ≤ t.length ∧ R = memF t n (s ||| spanS lo.toNat hi.toNat) q', fun hi q' hh => ?_, by omega, ?_⟩
          · obtain ⟨c1, c2, c3, c4, c5⟩ := hh
            have d1 : q.toNat < q'.toNat := by omega
            have d2 : q'.toNat ≤ t.length := by omega
            clear hM hF
            exact ⟨⟨⟨b1.1, b1.2.1⟩, c1, c2⟩, ⟨by omega, c4, n, by omega, c5⟩, by show t.length - q'.toNat < t.length - q.toNat; omega⟩
          · by_cases h3 : p1 < t.length ∧ peekB t p1 = 45
            · rw [if_pos (by simpa [peekOk] using h3)]
              rw [if_pos h3] at hF
              refine ⟨⟨by omega, by omega⟩, ⟨by omega, by omega, h.2.2⟩, fun hi p2 hhi => ?_, fun e p2 he => ?_⟩
              · have b2 := oneM_ok hhi
                rw [show ([92, 93, 91, 45, 94, 47] : List UInt8) = inL from rfl] at hhi
                rw [hhi] at hF
                simp only at hF
                by_cases h4 : hi < lo
                · rw [if_pos (by simpa using h4)]
                  rw [if_pos h4] at hF
                  rw [hF] at hM
                  refine ⟨rfl, _, ?_, rfl⟩
                  rw [hM]; split <;> rfl
                · rw [if_neg (by simpa using h4)]
                  rw [if_neg h4] at hF
                  exact ⟨b2.1, b2.2.1, by omega, b2.2.2.2, hF⟩
              · rw [show ([92, 93, 91, 45, 94, 47] : List UInt8) = inL from rfl] at he
                rw [he] at hF
                simp only at hF
                rw [hF] at hM
                refine ⟨rfl, _, ?_, rfl⟩
                rw [hM]; split <;> rfl
            · rw [if_neg (by simpa [peekOk] using h3)]
              rw [if_neg h3] at hF
              exact ⟨b1.1, b1.2.1, by omega, b1.2.2.2, hF⟩
        · rw [show ([92, 93, 91, 45, 94, 47] : List UInt8) = inL from rfl] at he
          rw [he] at hF
          simp only at hF
          rw [hF] at hM
          refine ⟨rfl, _, ?_, rfl⟩
          rw [hM]; split <;> rfl
    · by_cases h2 : a < t.length ∧ peekB t a = 94
      · rw [if_pos (by simpa [peekOk] using h2)]
        refine ⟨⟨by omega, by omega⟩, by omega, by omega, ?_⟩
        rw [if_pos h2]; unfold memM; rw [if_pos h2]
      · rw [if_neg (by simpa [peekOk] using h2)]
        refine ⟨by omega, by omega, ?_⟩
        rw [if_neg h2]; unfold memM; rw [if_neg h2]
  · rintro o (⟨r, t', q, ⟨rfl, hm⟩, rfl⟩ | ⟨v, t', q, ⟨rfl, e, hm, rfl⟩, rfl⟩)
    · exact .inl ⟨r, q, hm, rfl⟩
    · exact .inr ⟨e, q, hm, rfl⟩

def item_vc (r_0 : List UInt8) (r_1 : Int) (K : CS → (List UInt8) → Int → Prop) (KP : Value → (List UInt8) → Int → Prop) : Prop :=
  (0 ≤ r_1 ∧ r_1 < r_0.length) ∧
  (if (decide (((r_0.getD r_1.toNat 0).toNat : Int) = 46)) = true then
    (I64 (r_1 + 1)) ∧
    ([10].length ≤ maxLen) ∧
    K (~~~ (ofS [10])) r_0 (r_1 + 1)
  else
    (if (decide (((r_0.getD r_1.toNat 0).toNat : Int) = 91)) = true then
      (I64 (r_1 + 1)) ∧
      (0 ≤ r_1 + 1 ∧ r_1 + 1 ≤ r_0.length ∧ r_0.length ≤ 9223372036854775807) ∧
      (∀ (r_1' : CS) (at0 : Int), memM r_0 (r_1 + 1) = .ok (r_1', at0) →
        K r_1' r_0 at0) ∧
      (∀ (e : Int) (at0_1' : Int), memM r_0 (r_1 + 1) = .error e →
        KP (faultV 10 e) r_0 at0_1')
    else
      (0 ≤ r_1 ∧ r_1 ≤ r_0.length ∧ r_0.length ≤ 9223372036854775807) ∧
      (∀ (r_2' : Int) (at0_2' : Int), oneM r_0 r_1 [40, 41, 91, 93, 123, 125, 124, 38, 45, 42, 43, 63, 46, 92, 47, 94] = .ok (r_2', at0_2') →
        ((0 ≤ r_2' ∧ r_2' < 256) ∧ (0 ≤ r_2' ∧ r_2' < 256)) ∧
        K (spanS (r_2').toNat (r_2').toNat) r_0 at0_2') ∧
      (∀ (e_1' : Int) (at0_3' : Int), oneM r_0 r_1 [40, 41, 91, 93, 123, 125, 124, 38, 45, 42, 43, 63, 46, 92, 47, 94] = .error e_1' →
        KP (faultV 10 e_1') r_0 at0_3')))
set_option maxRecDepth 100000 in
theorem item_wp (b : Nat) (te : TypeId) (fre : Nat × Nat) (r_0 : List UInt8) (r_1 : Int) (K : CS → (List UInt8) → Int → Prop) (KP : Value → (List UInt8) → Int → Prop) (h : item_vc r_0 r_1 K KP) :
    Does Tryd.prog 24 [Value.pointer (some ⟨b, 0, none⟩)] [(0, .cells [Value.int .u8 110, Value.int .u8 10, Value.int .u8 114, Value.int .u8 13, Value.int .u8 116, Value.int .u8 9].toArray te fre)] [HA.blk b (.cells [st r_0, Value.int .i64 r_1].toArray 55 (0, 0))] (fun o => (∃ (v : CS) (d_0 : List UInt8) (d_1 : Int), K v d_0 d_1 ∧ o = .ret (Value.agg (wl v).toArray) [HA.blk b (.cells [st d_0, Value.int .i64 d_1].toArray 55 (0, 0))]) ∨ (∃ (pv : Value) (d_0 : List UInt8) (d_1 : Int), KP pv d_0 d_1 ∧ o = .pan [{ v := pv, recovered := false }] [HA.blk b (.cells [st d_0, Value.int .i64 d_1].toArray 55 (0, 0))])) := by
  unfold item_vc at h
  refine does_of_wc (n := 42) (L0 := [(0, Value.pointer (some ⟨b, 0, none⟩))]) Tryd.func24 rfl rfl rfl rfl (fun w0 M Q hE => ?_)
  refine wc_seq (fun K0 hK => ?_)
  refine wc_region ?_
  refine WL.make (MV.alloc tf_zero_26) rfl rfl rfl (fun b_1' => ?_)
  refine WL.nil ?_
  refine KX.go (hK [(0, Value.pointer (some ⟨b, 0, none⟩)), (2, Value.pointer (some ⟨b_1', 0, none⟩))] _ ?_) ⟨rfl, rfl, trivial⟩
  refine wc_seq (fun K0_1' hK_1' => ?_)
  refine wc_seq (fun K0_2' hK_2' => ?_)
  refine wc_draw 8 [] tf_mixed (by kernel_rfl) rfl (fun T hT => ?_)
  refine FL.val (fun _ => OV.move rfl) rfl (fun _ => rfl) rfl rfl ?_
  refine FL.val (fun _ => OV.nilCheck rfl) rfl (fun _ => rfl) rfl rfl ?_
  refine FL.val (fun _ => OV.fieldAddr0 rfl tf_field_55_0) rfl (fun _ => rfl) rfl rfl ?_
  refine FL.val (fun _ => OV.load rfl (At.own 1 rfl) rfl tf_scal_9) rfl (fun _ => rfl) rfl rfl ?_
  refine FL.val (fun _ => OV.move rfl) rfl (fun _ => rfl) rfl rfl ?_
  refine FL.val (fun _ => OV.nilCheck rfl) rfl (fun _ => rfl) rfl rfl ?_
  refine FL.val (fun _ => OV.fieldAddr0 rfl tf_field_55_1) rfl (fun _ => rfl) rfl rfl ?_
  refine FL.val (fun _ => OV.load rfl (At.own 1 rfl) rfl tf_scal_3) rfl (fun _ => rfl) rfl rfl ?_
  refine FL.weak (L' := fun γ => [(0, Value.pointer (some ⟨b, 0, none⟩)), (2, Value.pointer (some ⟨b_1', 0, none⟩)), (8, st r_0), (12, Value.int .i64 r_1)]) (fun γ => ⟨rfl, rfl, rfl, rfl, trivial⟩) (FL.nil (hT (fun γ => [(0, Value.pointer (some ⟨b, 0, none⟩)), (2, Value.pointer (some ⟨b_1', 0, none⟩)), (8, st r_0), (12, Value.int .i64 r_1)]) (fun γ => ?_)))
  obtain ⟨o, h⟩ := h
  refine WL.val (OV.index rfl rfl tf_str_9 o) rfl rfl rfl ?_
  refine WL.val (OV.assign rfl) rfl rfl rfl ?_
  refine WL.nil ?_
  refine KX.go (hK_2' [(0, Value.pointer (some ⟨b, 0, none⟩)), (2, Value.pointer (some ⟨b_1', 0, none⟩)), (3, Value.int .u8 ((r_0.getD r_1.toNat 0).toNat : Int))] _ ?_) ⟨rfl, rfl, rfl, trivial⟩
  refine wc_seq (fun K0_3' hK_3' => ?_)
  refine wc_region ?_
  refine WL.val (OV.move rfl) rfl rfl rfl ?_
  refine WL.nil ?_
  refine KX.go (hK_3' [(0, Value.pointer (some ⟨b, 0, none⟩)), (2, Value.pointer (some ⟨b_1', 0, none⟩)), (14, Value.int .u8 ((r_0.getD r_1.toNat 0).toNat : Int))] _ ?_) ⟨rfl, rfl, rfl, trivial⟩
  refine wc_block ?_
  refine wc_seq (fun K0_4' hK_4' => ?_)
  refine wc_region ?_
  refine WL.val (OV.eql rfl rfl) rfl rfl rfl ?_
  refine WL.val (OV.assign rfl) rfl rfl rfl ?_
  refine WL.nil ?_
  refine KX.go (hK_4' [(0, Value.pointer (some ⟨b, 0, none⟩)), (2, Value.pointer (some ⟨b_1', 0, none⟩)), (14, Value.int .u8 ((r_0.getD r_1.toNat 0).toNat : Int)), (15, Value.bool (decide (((r_0.getD r_1.toNat 0).toNat : Int) = 46)))] _ ?_) ⟨rfl, rfl, rfl, rfl, trivial⟩
  refine wc_cond (b := decide (((r_0.getD r_1.toNat 0).toNat : Int) = 46)) rfl (fun hb => ?_) (fun hb => ?_)
  · replace h := if_T h hb
    refine wc_seq (fun K0_5' hK_5' => ?_)
    refine wc_region ?_
    refine WL.val (OV.move rfl) rfl rfl rfl ?_
    refine WL.val (OV.nilCheck rfl) rfl rfl rfl ?_
    refine WL.val (OV.fieldAddr0 rfl tf_field_55_1) rfl rfl rfl ?_
    refine WL.val (OV.load rfl (At.own 1 rfl) rfl tf_scal_3) rfl rfl rfl ?_
    obtain ⟨o_1', h⟩ := h
    refine WL.val (OV.add rfl rfl o_1') rfl rfl rfl ?_
    refine WL.val (OV.nilCheck rfl) rfl rfl rfl ?_
    refine WL.val (OV.fieldAddr0 rfl tf_field_55_1) rfl rfl rfl ?_
    refine WL.store (vs := [Value.int .i64 (r_1 + 1)]) (cs' := [st r_0, Value.int .i64 (r_1 + 1)]) 1 rfl rfl rfl rfl tf_size_3 (Nat.le_of_ble_eq_true rfl) rfl rfl rfl ?_
    refine WL.nil ?_
    refine KX.go (hK_5' [(2, Value.pointer (some ⟨b_1', 0, none⟩))] _ ?_) ⟨rfl, trivial⟩
    refine wc_seq (fun K0_6' hK_6' => ?_)
    refine wc_region ?_
    obtain ⟨o_2', h⟩ := h
    refine WL.call (A := []) tf_ent_29 rfl (of_does [10] o_2') rfl trivial rfl rfl ?_
    refine WL.call (A := []) tf_ent_17 rfl (not_does (ofS [10])) rfl trivial rfl rfl ?_
    refine WL.storeW (vs := wl (~~~ (ofS [10]))) 0 rfl rfl rfl rfl rfl tf_size_26 rfl rfl rfl ?_
    refine WL.nil ?_
    refine KX.go (hK_6' [(2, Value.pointer (some ⟨b_1', 0, none⟩))] _ ?_) ⟨rfl, trivial⟩
    refine wc_ret ?_
    exact hE.ret [1] rfl rfl (.inl ⟨_, _, _, h, rfl⟩) (ResV.of1 rfl (RV.row rfl (At.own 0 rfl) tf_row_26))
  · replace h := if_F h hb
    refine wc_seq (fun K0_7' hK_7' => ?_)
    refine wc_region ?_
    refine WL.val (OV.eql rfl rfl) rfl rfl rfl ?_
    refine WL.val (OV.assign rfl) rfl rfl rfl ?_
    refine WL.nil ?_
    refine KX.go (hK_7' [(0, Value.pointer (some ⟨b, 0, none⟩)), (2, Value.pointer (some ⟨b_1', 0, none⟩)), (26, Value.bool (decide (((r_0.getD r_1.toNat 0).toNat : Int) = 91)))] _ ?_) ⟨rfl, rfl, rfl, trivial⟩
    refine wc_cond (b := decide (((r_0.getD r_1.toNat 0).toNat : Int) = 91)) rfl (fun hb => ?_) (fun hb => ?_)
    · replace h := if_T h hb
      refine wc_seq (fun K0_8' hK_8' => ?_)
      refine wc_region ?_
      refine WL.val (OV.move rfl) rfl rfl rfl ?_
      refine WL.val (OV.nilCheck rfl) rfl rfl rfl ?_
      refine WL.val (OV.fieldAddr0 rfl tf_field_55_1) rfl rfl rfl ?_
      refine WL.val (OV.load rfl (At.own 1 rfl) rfl tf_scal_3) rfl rfl rfl ?_
      obtain ⟨o_3', h⟩ := h
      refine WL.val (OV.add rfl rfl o_3') rfl rfl rfl ?_
      refine WL.val (OV.nilCheck rfl) rfl rfl rfl ?_
      refine WL.val (OV.fieldAddr0 rfl tf_field_55_1) rfl rfl rfl ?_
      refine WL.store (vs := [Value.int .i64 (r_1 + 1)]) (cs' := [st r_0, Value.int .i64 (r_1 + 1)]) 1 rfl rfl rfl rfl tf_size_3 (Nat.le_of_ble_eq_true rfl) rfl rfl rfl ?_
      refine WL.nil ?_
      refine KX.go (hK_8' [(0, Value.pointer (some ⟨b, 0, none⟩)), (2, Value.pointer (some ⟨b_1', 0, none⟩))] _ ?_) ⟨rfl, rfl, trivial⟩
      refine wc_seq (fun K0_9' hK_9' => ?_)
      refine wc_region ?_
      refine WL.val (OV.move rfl) rfl rfl rfl ?_
      obtain ⟨o_4', h⟩ := h
      refine WL.pick (H' := [HA.blk b (.cells [st r_0, Value.int .i64 (r_1 + 1)].toArray 55 (0, 0)), HA.blk b_1' (.cells (wl cs0).toArray 26 (0, 0))]) [1, 0] rfl rfl ?_
      refine WL.callS tf_ent_30 rfl (members_does b te fre r_0 (r_1 + 1) o_4') rfl ⟨.inr (List.mem_of_getElem? (i := 0) rfl), trivial⟩ rfl rfl (fun r H' hS => ?_) (fun c H' hS => ?_)
      · rcases hS with ⟨r_1', at0, hc, ho⟩ | ⟨e, at0_1', hc, ho⟩ <;> cases ho
        replace h := h.1 r_1' at0 hc
        refine WL.storeW (vs := wl r_1') 1 rfl rfl rfl rfl rfl tf_size_26 rfl rfl rfl ?_
        refine WL.nil ?_
        refine KX.go (hK_9' [(2, Value.pointer (some ⟨b_1', 0, none⟩))] _ ?_) ⟨rfl, trivial⟩
        refine wc_ret ?_
        exact hE.ret [0] rfl rfl (.inl ⟨_, _, _, h, rfl⟩) (ResV.of1 rfl (RV.row rfl (At.own 1 rfl) tf_row_26))
      · rcases hS with ⟨r_1', at0, hc, ho⟩ | ⟨e, at0_1', hc, ho⟩ <;> cases ho
        replace h := h.2 e at0_1' hc
        exact hE.pan [0] rfl rfl (.inr ⟨_, _, _, h, rfl⟩)
    · replace h := if_F h hb
      refine wc_skip ?_
      refine KX.go (hK_1' [(0, Value.pointer (some ⟨b, 0, none⟩)), (2, Value.pointer (some ⟨b_1', 0, none⟩))] _ ?_) ⟨rfl, rfl, trivial⟩
      refine wc_seq (fun K0_10' hK_10' => ?_)
      refine wc_region ?_
      refine WL.val (OV.move rfl) rfl rfl rfl ?_
      obtain ⟨o_5', h⟩ := h
      refine WL.pick (H' := [HA.blk b (.cells [st r_0, Value.int .i64 r_1].toArray 55 (0, 0)), HA.blk b_1' (.cells (wl cs0).toArray 26 (0, 0))]) [1, 0] rfl rfl ?_
      refine WL.callS tf_ent_31 rfl (one_does b te fre r_0 r_1 [40, 41, 91, 93, 123, 125, 124, 38, 45, 42, 43, 63, 46, 92, 47, 94] o_5') rfl ⟨.inr (List.mem_of_getElem? (i := 0) rfl), trivial⟩ rfl rfl (fun r H' hS => ?_) (fun c H' hS => ?_)
      · rcases hS with ⟨r_2', at0_2', hc, ho⟩ | ⟨e_1', at0_3', hc, ho⟩ <;> cases ho
        replace h := h.1 r_2' at0_2' hc
        refine WL.val (OV.assign rfl) rfl rfl rfl ?_
        refine WL.nil ?_
        refine KX.go (hK_10' [(2, Value.pointer (some ⟨b_1', 0, none⟩)), (4, Value.int .u8 r_2')] _ ?_) ⟨rfl, rfl, trivial⟩
        refine wc_seq (fun K0_11' hK_11' => ?_)
        refine wc_region ?_
        refine WL.val (OV.move rfl) rfl rfl rfl ?_
        refine WL.val (OV.move rfl) rfl rfl rfl ?_
        obtain ⟨o_6', h⟩ := h
        refine WL.call (A := []) tf_ent_32 rfl (span_does r_2' r_2' o_6') rfl trivial rfl rfl ?_
        refine WL.storeW (vs := wl (spanS (r_2').toNat (r_2').toNat)) 1 rfl rfl rfl rfl rfl tf_size_26 rfl rfl rfl ?_
        refine WL.nil ?_
        refine KX.go (hK_11' [(2, Value.pointer (some ⟨b_1', 0, none⟩))] _ ?_) ⟨rfl, trivial⟩
        refine wc_ret ?_
        exact hE.ret [0] rfl rfl (.inl ⟨_, _, _, h, rfl⟩) (ResV.of1 rfl (RV.row rfl (At.own 1 rfl) tf_row_26))
      · rcases hS with ⟨r_2', at0_2', hc, ho⟩ | ⟨e_1', at0_3', hc, ho⟩ <;> cases ho
        replace h := h.2 e_1' at0_3' hc
        exact hE.pan [0] rfl rfl (.inr ⟨_, _, _, h, rfl⟩)

def itemM (t : List UInt8) (a : Int) : Except Int (CS × Int) :=
  if peekB t a = 46 then .ok (~~~ ofS [10], a + 1)
  else if peekB t a = 91 then memM t (a + 1)
  else match oneM t a spL with
    | .ok (b, q) => .ok (spanS b.toNat b.toNat, q)
    | .error e => .error e
theorem item_does (b : Nat) (te : TypeId) (fre : Nat × Nat) (t : List UInt8) (a : Int) (h : 0 ≤ a ∧ a < t.length ∧ t.length ≤ 9223372036854775807) : Does Tryd.prog 24 [.pointer (some ⟨b, 0, none⟩)] (escTab te fre) [rdBlk b t a] (RdOutS b t (itemM t a)) := by
  refine (item_wp b te fre t a (fun r t' q => t' = t ∧ itemM t a = .ok (r, q)) (fun v t' _ => t' = t ∧ ∃ e, itemM t a = .error e ∧ v = faultV 10 e) ?_).weak ?_
  · have hp : peekB t a = ((t.getD a.toNat 0).toNat : Int) := by unfold peekB; rw [if_pos h.2.1]
    unfold item_vc
    rw [← hp]
    have hI : I64 (a + 1) := ⟨by omega, by omega⟩
    refine ⟨⟨h.1, h.2.1⟩, ?_⟩
    by_cases h1 : peekB t a = 46
    · rw [if_pos (by simpa using h1)]
      exact ⟨hI, by decide, rfl, by unfold itemM; rw [if_pos h1]⟩
    · rw [if_neg (by simpa using h1)]
      by_cases h2 : peekB t a = 91
      · rw [if_pos (by simpa using h2)]
        have hM : itemM t a = memM t (a + 1) := by unfold itemM; rw [if_neg h1, if_pos h2]
        rw [hM]
        exact ⟨hI, ⟨by omega, by omega, h.2.2⟩, fun r q hr => ⟨rfl, hr⟩, fun e q he => ⟨rfl, e, he, rfl⟩⟩
      · rw [if_neg (by simpa using h2)]
        refine ⟨⟨h.1, by omega, h.2.2⟩, fun r q hr => ?_, fun e q he => ?_⟩
        · have b1 := oneM_ok hr
          refine ⟨⟨⟨b1.1, b1.2.1⟩, b1.1, b1.2.1⟩, rfl, ?_⟩
          unfold itemM; rw [if_neg h1, if_neg h2, show spL = [40, 41, 91, 93, 123, 125, 124, 38, 45, 42, 43, 63, 46, 92, 47, 94] from rfl, hr]
        · refine ⟨rfl, e, ?_, rfl⟩
          unfold itemM; rw [if_neg h1, if_neg h2, show spL = [40, 41, 91, 93, 123, 125, 124, 38, 45, 42, 43, 63, 46, 92, 47, 94] from rfl, he]
  · rintro o (⟨r, t', q, ⟨rfl, hm⟩, rfl⟩ | ⟨v, t', q, ⟨rfl, e, hm, rfl⟩, rfl⟩)
    · exact .inl ⟨r, q, hm, rfl⟩
    · exact .inr ⟨e, q, hm, rfl⟩

end Go.Proofs.YtkjnhjhkaaampaaDoor
