/-
  Scan.
-/
import Derived.Test.YtlfolgbaageknaaDoorTkO
namespace Go.Proofs.YtlfolgbaageknaaDoor
open Go Go.RowKit

theorem tf_zero_25 : zeroB Tryd.prog 25 = some [Value.int .i64 0, Value.int .i64 0, st []] := by kernel_rfl
theorem tf_row_25 : RowT Tryd.prog 25 3 := ⟨by kernel_rfl, by kernel_rfl⟩
theorem tf_ent_13 : entB Tryd.prog 13 = true := by kernel_rfl
theorem tf_ent_15 : entB Tryd.prog 15 = true := by kernel_rfl

def scan_vc (text : List UInt8) (K : (List Tok) → Int → Int → (List UInt8) → Prop) : Prop :=
  (if (decide (4096 < (text.length : Int))) = true then
    K ([] : List Tok) 1 0 []
  else
    (0 ≤ (0 : Int) ∧ (0 : Int) ≤ text.length ∧ text.length ≤ 4096) ∧
    ∃ (Inv : Int → Int → Int → (List UInt8) → (List Tok) → Prop) (mu : Int → Int → Int → (List UInt8) → (List Tok) → Nat),
      Inv (gapM text 0) 0 0 [] [] ∧ ∀ (c_1_1' : Int) (c_3_1' : Int) (c_4_1' : Int) (c_5_1' : List UInt8) (l_3' : List Tok), Inv c_1_1' c_3_1' c_4_1' c_5_1' l_3' →
        (if (!(decide (text.length ≤ c_1_1'))) = true then
          (0 ≤ c_1_1' ∧ c_1_1' < text.length ∧ text.length ≤ 4096 ∧ l_3'.length ≤ 4096) ∧
          (∀ (ok_2' : Bool) (at0_2' : Int) (l_4' : List Tok) (fc_2' : Int) (fa_2' : Int) (ft_2' : List UInt8), Took (oneM text c_1_1') text l_3' c_3_1' c_4_1' c_5_1' ok_2' at0_2' l_4' fc_2' fa_2' ft_2' →
            (if (!ok_2') = true then
              K ([] : List Tok) fc_2' fa_2' ft_2'
            else
              (0 ≤ at0_2' ∧ at0_2' ≤ text.length ∧ text.length ≤ 4096) ∧
              Inv (gapM text at0_2') fc_2' fa_2' ft_2' l_4' ∧ mu (gapM text at0_2') fc_2' fa_2' ft_2' l_4' < mu c_1_1' c_3_1' c_4_1' c_5_1' l_3'))
        else
          (l_3'.length ≤ 4096) ∧
          (
            K (l_3' ++ [((0 : Int), (text.length : Int), [])]) 0 0 [])))
set_option maxRecDepth 100000 in
theorem scan_wp  (text : List UInt8) (K : (List Tok) → Int → Int → (List UInt8) → Prop) (h : scan_vc text K) :
    Does Tryd.prog 5 [st text] [] [] (fun o => (∃ (w_6' : Value) (v : List Tok) (v_1'_0 : Int) (v_1'_1 : Int) (v_1'_2 : List UInt8), K v v_1'_0 v_1'_1 v_1'_2 ∧ o = .ret (Value.tuple #[w_6', Value.agg [Value.int .i64 v_1'_0, Value.int .i64 v_1'_1, st v_1'_2].toArray]) [HA.row w_6' 34 3 v.length (v.flatMap tokC)]) ∨ (False)) := by
  unfold scan_vc at h
  refine does_of_wc (n := 35) (L0 := [(0, st text)]) Tryd.func5 rfl rfl rfl rfl (fun w0 M Q hE => ?_)
  refine wc_seq (fun K0 hK => ?_)
  refine wc_region ?_
  refine WL.val (OV.assign rfl) rfl rfl rfl ?_
  refine WL.nilRow 34 3 tokC ?_
  refine WL.make (MV.alloc tf_zero_25) rfl rfl rfl (fun b => ?_)
  refine WL.nil ?_
  refine KX.go (hK [(0, st text), (3, Value.pointer (some ⟨b, 0, none⟩))] _ ?_) ⟨rfl, rfl, trivial⟩
  refine wc_seq (fun K0_1' hK_1' => ?_)
  refine wc_seq (fun K0_2' hK_2' => ?_)
  refine wc_region ?_
  refine WL.val (OV.move rfl) rfl rfl rfl ?_
  refine WL.val (OV.len rfl tf_str_9) rfl rfl rfl ?_
  refine WL.val (OV.gtr rfl rfl) rfl rfl rfl ?_
  refine WL.nil ?_
  refine KX.go (hK_2' [(0, st text), (3, Value.pointer (some ⟨b, 0, none⟩)), (7, Value.bool (decide (4096 < (text.length : Int))))] _ ?_) ⟨rfl, rfl, rfl, trivial⟩
  refine wc_cond (b := decide (4096 < (text.length : Int))) rfl (fun hb => ?_) (fun hb => ?_)
  · replace h := if_T h hb
    refine wc_seq (fun K0_3' hK_3' => ?_)
    refine wc_region ?_
    refine WL.val (OV.build rfl (cs := [Value.int .i64 1, Value.int .i64 0, st []]) rfl) rfl rfl rfl ?_
    refine WL.val (OV.assign rfl) rfl rfl rfl ?_
    refine WL.nilRow 34 3 tokC ?_
    refine WL.storeW (vs := [Value.int .i64 1, Value.int .i64 0, st []]) 1 rfl rfl rfl rfl rfl tf_size_25 rfl rfl rfl ?_
    refine WL.nil ?_
    refine KX.go (hK_3' [(2, Value.slice none 0 0), (3, Value.pointer (some ⟨b, 0, none⟩))] _ ?_) ⟨rfl, rfl, trivial⟩
    refine wc_ret ?_
    exact hE.ret [0] rfl rfl (.inl ⟨_, _, _, _, _, h, rfl⟩) (ResV.of2 rfl (RV.tmp rfl) (RV.row rfl (At.own 1 rfl) tf_row_25))
  · replace h := if_F h hb
    refine wc_skip ?_
    refine KX.go (hK_1' [(0, st text), (3, Value.pointer (some ⟨b, 0, none⟩))] _ ?_) ⟨rfl, rfl, trivial⟩
    refine wc_seq (fun K0_4' hK_4' => ?_)
    refine wc_region ?_
    refine WL.val (OV.move rfl) rfl rfl rfl ?_
    refine WL.val (OV.build rfl (cs := [st text, Value.int .i64 0, Value.slice none 0 0, Value.int .i64 0, Value.int .i64 0, st []]) rfl) rfl rfl rfl ?_
    refine WL.make (MV.box (cs := [st text, Value.int .i64 0, Value.slice none 0 0, Value.int .i64 0, Value.int .i64 0, st []]) rfl rfl) rfl rfl rfl (fun b_1' => ?_)
    refine WL.nilRow 34 3 tokC ?_
    refine WL.val (OV.assign rfl) rfl rfl rfl ?_
    refine WL.nil ?_
    refine KX.go (hK_4' [(0, st text), (3, Value.pointer (some ⟨b, 0, none⟩)), (4, Value.pointer (some ⟨b_1', 0, none⟩))] _ ?_) ⟨rfl, rfl, rfl, trivial⟩
    refine wc_seq (fun K0_5' hK_5' => ?_)
    refine wc_seq (fun K0_6' hK_6' => ?_)
    refine wc_region ?_
    refine WL.val (OV.move rfl) rfl rfl rfl ?_
    obtain ⟨o, h⟩ := h
    refine WL.pick (H' := [HA.blk b_1' (.cells [st text, Value.int .i64 0, Value.slice none 0 0, Value.int .i64 0, Value.int .i64 0, st []].toArray 43 (0, 0)), HA.row (Value.slice none 0 0) 34 3 ([] : List Tok).length (([] : List Tok).flatMap tokC), HA.blk b (.cells [Value.int .i64 0, Value.int .i64 0, st []].toArray 25 (0, 0)), HA.row (Value.slice none 0 0) 34 3 ([] : List Tok).length (([] : List Tok).flatMap tokC)]) [1, 0, 2, 3] rfl rfl ?_
    refine WL.call tf_ent_13 rfl (skip_does b_1' text 0 (Value.slice none 0 0) 0 0 [] o) rfl trivial rfl rfl ?_
    refine WL.nil ?_
    refine KX.go (hK_6' [(0, st text), (3, Value.pointer (some ⟨b, 0, none⟩)), (4, Value.pointer (some ⟨b_1', 0, none⟩))] _ ?_) ⟨rfl, rfl, rfl, trivial⟩
    refine wc_block ?_
    refine WC.pick (H' := [HA.blk b_1' (.cells [st text, Value.int .i64 (gapM text 0), Value.slice none 0 0, Value.int .i64 0, Value.int .i64 0, st []].toArray 43 (0, 0)), HA.row (Value.slice none 0 0) 34 3 ([] : List Tok).length (([] : List Tok).flatMap tokC), HA.blk b (.cells [Value.int .i64 0, Value.int .i64 0, st []].toArray 25 (0, 0))]) [0, 1, 2] rfl rfl ?_
    obtain ⟨Inv, mu, h0, hr⟩ := h
    refine wc_loop (S := Int × Int × Int × (List UInt8) × Value × (List Tok)) (fun σ => Inv σ.1 σ.2.1 σ.2.2.1 σ.2.2.2.1 σ.2.2.2.2.2) (fun σ => mu σ.1 σ.2.1 σ.2.2.1 σ.2.2.2.1 σ.2.2.2.2.2) (fun σ => [(0, st text), (3, Value.pointer (some ⟨b, 0, none⟩)), (4, Value.pointer (some ⟨b_1', 0, none⟩))]) (fun σ => [HA.blk b_1' (.cells [st text, Value.int .i64 σ.1, σ.2.2.2.2.1, Value.int .i64 σ.2.1, Value.int .i64 σ.2.2.1, st σ.2.2.2.1].toArray 43 (0, 0)), HA.row σ.2.2.2.2.1 34 3 σ.2.2.2.2.2.length (σ.2.2.2.2.2.flatMap tokC), HA.blk b (.cells [Value.int .i64 0, Value.int .i64 0, st []].toArray 25 (0, 0))]) (gapM text 0, 0, 0, [], Value.slice none 0 0, []) h0 ⟨rfl, rfl, rfl, trivial⟩ rfl ?_
    rintro ⟨c_1_1', c_3_1', c_4_1', c_5_1', w_3', l_3'⟩ hi K0_17' hK_17'
    have h := hr c_1_1' c_3_1' c_4_1' c_5_1' l_3' hi
    show WC _ _ _ _ [(0, st text), (3, Value.pointer (some ⟨b, 0, none⟩)), (4, Value.pointer (some ⟨b_1', 0, none⟩))] [HA.blk b_1' (.cells [st text, Value.int .i64 c_1_1', w_3', Value.int .i64 c_3_1', Value.int .i64 c_4_1', st c_5_1'].toArray 43 (0, 0)), HA.row w_3' 34 3 l_3'.length (l_3'.flatMap tokC), HA.blk b (.cells [Value.int .i64 0, Value.int .i64 0, st []].toArray 25 (0, 0))]
    refine wc_seq (fun K0_18' hK_18' => ?_)
    refine wc_seq (fun K0_19' hK_19' => ?_)
    refine wc_region ?_
    refine WL.val (OV.move rfl) rfl rfl rfl ?_
    refine WL.call (A := []) tf_ent_14 rfl (ended_does b_1' text c_1_1' w_3' c_3_1' c_4_1' c_5_1') rfl ⟨.inl ⟨0, rfl⟩, trivial⟩ rfl rfl ?_
    refine WL.val (OV.not rfl) rfl rfl rfl ?_
    refine WL.nil ?_
    refine KX.go (hK_19' [(0, st text), (3, Value.pointer (some ⟨b, 0, none⟩)), (4, Value.pointer (some ⟨b_1', 0, none⟩)), (16, Value.bool (!(decide (text.length ≤ c_1_1'))))] _ ?_) ⟨rfl, rfl, rfl, rfl, trivial⟩
    refine wc_cond (b := !(decide (text.length ≤ c_1_1'))) rfl (fun hb => ?_) (fun hb => ?_)
    · replace h := if_T h hb
      refine wc_skip ?_
      refine KX.go (hK_18' [(0, st text), (3, Value.pointer (some ⟨b, 0, none⟩)), (4, Value.pointer (some ⟨b_1', 0, none⟩))] _ ?_) ⟨rfl, rfl, rfl, trivial⟩
      refine wc_seq (fun K0_20' hK_20' => ?_)
      refine wc_block ?_
      refine wc_seq (fun K0_21' hK_21' => ?_)
      refine wc_region ?_
      refine WL.val (OV.move rfl) rfl rfl rfl ?_
      obtain ⟨o_5', h⟩ := h
      refine WL.callS tf_ent_15 rfl (one_does b_1' text c_1_1' w_3' c_3_1' c_4_1' c_5_1' l_3' o_5') rfl trivial rfl rfl (fun r H' hS => ?_) (fun c H' hS => ?_)
      · obtain ⟨w_4', ok_2', at0_2', l_4', fc_2', fa_2', ft_2', hc, ho⟩ := hS
        cases ho
        replace h := h ok_2' at0_2' l_4' fc_2' fa_2' ft_2' hc
        refine WL.val (OV.not rfl) rfl rfl rfl ?_
        refine WL.nil ?_
        refine KX.go (hK_21' [(0, st text), (3, Value.pointer (some ⟨b, 0, none⟩)), (4, Value.pointer (some ⟨b_1', 0, none⟩)), (21, Value.bool (!ok_2'))] _ ?_) ⟨rfl, rfl, rfl, rfl, trivial⟩
        refine wc_cond (b := !ok_2') rfl (fun hb => ?_) (fun hb => ?_)
        · replace h := if_T h hb
          refine wc_seq (fun K0_22' hK_22' => ?_)
          refine wc_draw 5 [] tf_mixed (by kernel_rfl) rfl (fun T_2' hT_2' => ?_)
          refine FL.val (fun _ => OV.move rfl) rfl (fun _ => rfl) rfl rfl ?_
          refine FL.val (fun _ => OV.nilCheck rfl) rfl (fun _ => rfl) rfl rfl ?_
          refine FL.val (fun _ => OV.fieldAddr0 rfl tf_field_43_3) rfl (fun _ => rfl) rfl rfl ?_
          refine FL.val (fun _ => OV.loadM (vs := [Value.int .i64 fc_2', Value.int .i64 fa_2', st ft_2']) rfl (At.own 0 rfl) rfl tf_row_25) rfl (fun _ => rfl) rfl rfl ?_
          refine FL.val (fun _ => OV.assign rfl) rfl (fun _ => rfl) rfl rfl ?_
          refine FL.weak (L' := fun γ => [(2, Value.slice none 0 0), (3, Value.pointer (some ⟨b, 0, none⟩)), (25, Value.agg [Value.int .i64 fc_2', Value.int .i64 fa_2', st ft_2'].toArray)]) (fun γ => ⟨rfl, rfl, rfl, trivial⟩) (FL.nil (hT_2' (fun γ => [(2, Value.slice none 0 0), (3, Value.pointer (some ⟨b, 0, none⟩)), (25, Value.agg [Value.int .i64 fc_2', Value.int .i64 fa_2', st ft_2'].toArray)]) (fun γ => ?_)))
          refine WL.storeW (vs := [Value.int .i64 fc_2', Value.int .i64 fa_2', st ft_2']) 2 rfl rfl rfl rfl rfl tf_size_25 rfl rfl rfl ?_
          refine WL.nil ?_
          refine KX.go (hK_22' [(2, Value.slice none 0 0), (3, Value.pointer (some ⟨b, 0, none⟩))] _ ?_) ⟨rfl, rfl, trivial⟩
          refine wc_ret ?_
          refine QX.nilRow 34 3 tokC ?_
          exact hE.ret [0] rfl rfl (.inl ⟨_, _, _, _, _, h, rfl⟩) (ResV.of2 rfl (RV.tmp rfl) (RV.row rfl (At.own 3 rfl) tf_row_25))
        · replace h := if_F h hb
          refine wc_skip ?_
          refine KX.go (hK_20' [(0, st text), (3, Value.pointer (some ⟨b, 0, none⟩)), (4, Value.pointer (some ⟨b_1', 0, none⟩))] _ ?_) ⟨rfl, rfl, rfl, trivial⟩
          refine wc_region ?_
          refine WL.val (OV.move rfl) rfl rfl rfl ?_
          obtain ⟨o_6', h⟩ := h
          refine WL.call tf_ent_13 rfl (skip_does b_1' text at0_2' w_4' fc_2' fa_2' ft_2' o_6') rfl trivial rfl rfl ?_
          refine WL.nil ?_
          exact KX.goH (hK_17' (gapM text at0_2', fc_2', fa_2', ft_2', w_4', l_4') h.1 h.2) ⟨rfl, rfl, rfl, trivial⟩ [0, 1, 2] rfl rfl
      · obtain ⟨w_4', ok_2', at0_2', l_4', fc_2', fa_2', ft_2', hc, ho⟩ := hS
        cases ho
    · replace h := if_F h hb
      refine wc_exit ?_
      refine KX.go (hK_5' [(0, st text), (3, Value.pointer (some ⟨b, 0, none⟩)), (4, Value.pointer (some ⟨b_1', 0, none⟩))] _ ?_) ⟨rfl, rfl, rfl, trivial⟩
      refine wc_seq (fun K0_23' hK_23' => ?_)
      refine wc_region ?_
      refine WL.val (OV.move rfl) rfl rfl rfl ?_
      refine WL.val (OV.move rfl) rfl rfl rfl ?_
      refine WL.val (OV.len rfl tf_str_9) rfl rfl rfl ?_
      obtain ⟨o_7', h⟩ := h
      refine WL.callS tf_ent_16 rfl (add_does b_1' text c_1_1' w_3' c_3_1' c_4_1' c_5_1' l_3' 0 (text.length : Int) [] o_7') rfl trivial rfl rfl (fun r H' hS => ?_) (fun c H' hS => ?_)
      · obtain ⟨w_5', ho⟩ := hS
        cases ho
        refine WL.nil ?_
        refine KX.go (hK_23' [(3, Value.pointer (some ⟨b, 0, none⟩)), (4, Value.pointer (some ⟨b_1', 0, none⟩))] _ ?_) ⟨rfl, rfl, trivial⟩
        refine wc_seq (fun K0_24' hK_24' => ?_)
        refine wc_region ?_
        refine WL.val (OV.move rfl) rfl rfl rfl ?_
        refine WL.val (OV.nilCheck rfl) rfl rfl rfl ?_
        refine WL.val (OV.fieldAddr0 rfl tf_field_43_2) rfl rfl rfl ?_
        refine WL.val (OV.load rfl (At.own 0 rfl) rfl tf_scal_26) rfl rfl rfl ?_
        refine WL.val (OV.build rfl (cs := [Value.int .i64 0, Value.int .i64 0, st []]) rfl) rfl rfl rfl ?_
        refine WL.val (OV.assign rfl) rfl rfl rfl ?_
        refine WL.storeW (vs := [Value.int .i64 0, Value.int .i64 0, st []]) 2 rfl rfl rfl rfl rfl tf_size_25 rfl rfl rfl ?_
        refine WL.nil ?_
        refine KX.go (hK_24' [(2, w_5'), (3, Value.pointer (some ⟨b, 0, none⟩))] _ ?_) ⟨rfl, rfl, trivial⟩
        refine wc_ret ?_
        exact hE.ret [1] rfl rfl (.inl ⟨_, _, _, _, _, h, rfl⟩) (ResV.of2 rfl (RV.tmp rfl) (RV.row rfl (At.own 2 rfl) tf_row_25))
      · obtain ⟨w_5', ho⟩ := hS
        cases ho

theorem scan_does (t : List UInt8) : Does Tryd.prog 5 [st t] [] [] (fun o => ∃ w : Value, o = .ret (.tuple #[w, .agg [Value.int .i64 (scanR t).2.1, Value.int .i64 (scanR t).2.2, st []].toArray]) [tokRow w (scanR t).1]) := by
  refine (scan_wp t (fun l c p x => (l, c, p) = scanR t ∧ x = []) ?_).weak ?_
  · unfold scan_vc scanR
    by_cases h0 : 4096 < t.length
    · rw [if_pos (by simp; omega), if_pos h0]; exact ⟨rfl, rfl⟩
    · rw [if_neg (by simp; omega), if_neg h0]
      have hg0 := gapM_bd (t := t) (a := 0) ⟨by omega, by omega⟩
      refine ⟨⟨by omega, by omega, by omega⟩, fun a c p x l => 0 ≤ a ∧ a ≤ t.length ∧ c = 0 ∧ p = 0 ∧ x = [] ∧ l.length ≤ a ∧ ∃ n, (t.length - a).toNat < n ∧ scanF t (t.length + 1) [] (gapM t 0) = scanF t n l a, fun a _ _ _ _ => (t.length - a).toNat, ⟨by omega, by omega, rfl, rfl, rfl, by simp; omega, t.length + 1, by omega, rfl⟩, ?_⟩
      rintro a c p x l ⟨a0, a1, rfl, rfl, rfl, hl, n, hn, hF⟩
      obtain ⟨n, rfl⟩ : ∃ m, n = m + 1 := ⟨n - 1, by omega⟩
      by_cases ha : a < t.length
      · rw [if_pos (by simp; omega)]
        refine ⟨⟨a0, ha, by omega, by omega⟩, fun ok q l' c' p' x' hT => ?_⟩
        cases ho : oneM t a with
        | error e =>
          rw [ho] at hT
          obtain ⟨rfl, rfl, rfl, rfl, rfl⟩ := hT
          rw [if_pos (show (!false) = true from rfl), hF, scanF, if_pos ha, ho]
          exact ⟨rfl, rfl⟩
        | ok r =>
          rw [ho] at hT
          obtain ⟨rfl, rfl, rfl, rfl, rfl, rfl⟩ := hT
          have hq := oneM_ok ⟨a0, ha⟩ ho
          have hg := gapM_bd (t := t) (a := r.2) ⟨by omega, hq.2⟩
          rw [if_neg (by simp)]
          refine ⟨⟨by omega, hq.2, by omega⟩, ⟨by omega, hg.2, rfl, rfl, rfl, by simp; omega, n, by omega, ?_⟩, by show (t.length - gapM t r.2).toNat < (t.length - a).toNat; omega⟩
          rw [hF, scanF, if_pos ha, ho]
      · rw [if_neg (by simp; omega)]
        refine ⟨by omega, ?_⟩
        rw [hF, scanF, if_neg ha]
        exact ⟨rfl, rfl⟩
  · rintro o (⟨w, l, c, p, x, ⟨he, rfl⟩, rfl⟩ | h)
    · rw [← he]; exact ⟨w, rfl⟩
    · exact h.elim

theorem scan_ab : scanR [97, 46, 98] = ([(1, 0, [97]), (4, 1, [46]), (1, 2, [98]), (0, 3, [])], 0, 0) := by kernel_rfl
theorem scanF_len {t : List UInt8} : ∀ {n : Nat} {l l' : List Tok} {a : Int}, 0 ≤ a → l.length ≤ a → a ≤ t.length → scanF t n l a = .ok l' → l'.length ≤ t.length + 1
  | 0, _, _, _, _, _, _, h => by cases h
  | n + 1, l, l', a, h0, h1, h2, h => by
    rw [scanF] at h
    split at h
    · rename_i ha
      split at h
      · rename_i k q ho
        have hq := oneM_ok ⟨h0, ha⟩ ho
        have hg := gapM_bd (t := t) (a := q) ⟨by omega, hq.2⟩
        exact scanF_len (by omega) (by simp; omega) hg.2 h
      · cases h
    · simp only [Except.ok.injEq] at h
      subst h
      simp; omega
theorem scanR_len (t : List UInt8) : (scanR t).1.length ≤ 4097 := by
  unfold scanR
  split
  · simp
  · rename_i h
    have hg0 := gapM_bd (t := t) (a := 0) ⟨by omega, by omega⟩
    split
    · rename_i l hl
      have := scanF_len (t := t) hg0.1 (by simp; exact hg0.1) hg0.2 hl
      show l.length ≤ _
      omega
    · simp

end Go.Proofs.YtlfolgbaageknaaDoor
