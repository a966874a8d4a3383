/-
  TokenQuoted.
-/
import Derived.Test.YtiaafdjdppganaaQuV
namespace Go.Proofs.Ytiaafdjdppganaa
open Go Go.RowKit

theorem tf_ent_14 : entB Try.prog 14 = true := by kernel_rfl

theorem at_bt {t : List UInt8} {p : Nat} {c : UInt8} {v : List UInt8} (h : t.drop p = c :: v) : (p : Int) < t.length ∧ bt t p = c.toNat ∧ t.drop (p + 1) = v := by
  have hl : p < t.length := by
    have := congrArg List.length h
    rw [List.length_drop, List.length_cons] at this; omega
  have hg : t[p]? = some c := by
    have := congrArg (fun l => l[0]?) h
    simpa using this
  refine ⟨by omega, ?_, ?_⟩
  · unfold bt
    rw [Int.toNat_natCast, List.getD_eq_getElem?_getD, hg]; rfl
  · rw [← List.drop_drop, h]; rfl
theorem hx_back : ∀ n, n < 16 → refHex ((hx n).toNat : Nat) = n := by decide +kernel
theorem printB_of {n : Int} (h : 32 ≤ n ∧ n ≤ 126) : printB n = true := by unfold printB; simp [h.1, h.2]
theorem quotedF_back {t : List UInt8} {fr : Int} {r : List UInt8} : ∀ (s : List UInt8) (n p : Nat) (out : List UInt8), t.drop p = s.flatMap qb ++ 34 :: r → s.length < n → quotedF t fr n out (p : Int) = .ok (out ++ s, ((p + (s.flatMap qb).length + 1 : Nat) : Int))
  | [], n, p, out, h, hn => by
    obtain ⟨n, rfl⟩ : ∃ m, n = m + 1 := ⟨n - 1, by omega⟩
    obtain ⟨h1, h2, _⟩ := at_bt (v := r) h
    rw [quotedF, if_pos h1, if_pos (by rw [h2]; rfl)]; simp
  | c :: s, n, p, out, h, hn => by
    obtain ⟨n, rfl⟩ : ∃ m, n = m + 1 := ⟨n - 1, by omega⟩
    rw [List.flatMap_cons, List.append_assoc] at h
    have hn' : s.length < n := by simp only [List.length_cons] at hn; omega
    have hc := c.toNat_lt
    have ih := fun (q : Nat) (hq : t.drop q = s.flatMap qb ++ 34 :: r) => quotedF_back (fr := fr) s n q (out ++ [c]) hq hn'
    have step : ∀ (w : List UInt8) (b : Int), qb c = 92 :: w → b.toNat.toUInt8 = c → escM t (p : Int) = (b, true, ((p + (qb c).length - 1 : Nat) : Int)) → ((p + (qb c).length - 1 : Nat) : Int) < t.length → t.drop (p + (qb c).length) = s.flatMap qb ++ 34 :: r →
        quotedF t fr (n + 1) out (p : Int) = .ok (out ++ c :: s, ((p + ((c :: s).flatMap qb).length + 1 : Nat) : Int)) := fun w b hw hb he hlt hd => by
      rw [hw] at h
      obtain ⟨h1, h2, _⟩ := at_bt (v := w ++ (s.flatMap qb ++ 34 :: r)) h
      have hp : 1 ≤ (qb c).length := by rw [hw]; simp
      rw [quotedF, if_pos h1, if_neg (by rw [h2]; decide), if_neg (by rw [h2]; decide), if_neg (by rw [h2]; decide), he]
      simp only
      rw [if_neg (by omega), if_neg (by simp), hb, show ((p + (qb c).length - 1 : Nat) : Int) + 1 = ((p + (qb c).length : Nat) : Int) by omega, ih _ hd]
      simp [List.flatMap_cons, Nat.add_assoc]
    by_cases e1 : c = 34 ∨ c = 92
    · have hq : qb c = [92, c] := by unfold qb; rw [if_pos e1]
      have h' := h
      rw [hq] at h'
      obtain ⟨a1, a2, a3⟩ := at_bt (v := c :: (s.flatMap qb ++ 34 :: r)) h'
      obtain ⟨b1, b2, b3⟩ := at_bt a3
      refine step [c] (c.toNat : Int) hq (by simp) ?_ ?_ ?_
      · rw [hq]; unfold escM
        rw [if_neg (by omega), show (p : Int) + 1 = ((p + 1 : Nat) : Int) by omega, b2]
        rcases e1 with rfl | rfl <;> rfl
      · rw [hq]; simp only [List.length_cons, List.length_nil]; omega
      · rw [hq]; exact b3
    · by_cases e2 : 32 ≤ c.toNat ∧ c.toNat ≤ 126
      · have hq : qb c = [c] := by unfold qb; rw [if_neg e1, if_pos e2]
        rw [hq] at h
        obtain ⟨a1, a2, a3⟩ := at_bt (v := s.flatMap qb ++ 34 :: r) h
        have n1 : c.toNat ≠ 34 := fun e => e1 (.inl (UInt8.toNat_inj.1 e))
        have n2 : c.toNat ≠ 92 := fun e => e1 (.inr (UInt8.toNat_inj.1 e))
        rw [quotedF, if_pos a1, a2, if_neg (by omega), if_neg (by rw [printB_of (by omega)]; simp), if_pos (by omega), show (p : Int) + 1 = ((p + 1 : Nat) : Int) by omega]
        rw [show ((c.toNat : Int)).toNat.toUInt8 = c by simp, ih _ a3]
        simp [List.flatMap_cons, hq, Nat.add_assoc, Nat.add_comm 1]
      · have short : ∀ (x : UInt8) (b : Int), qb c = [92, x] → b.toNat.toUInt8 = c → (∀ a : Int, ¬ (t.length : Int) ≤ a + 1 → bt t (a + 1) = (x.toNat : Int) → escM t a = (b, true, a + 1)) → quotedF t fr (n + 1) out (p : Int) = .ok (out ++ c :: s, ((p + ((c :: s).flatMap qb).length + 1 : Nat) : Int)) := fun x b hq hb hesc => by
          have h' := h
          rw [hq] at h'
          obtain ⟨a1, a2, a3⟩ := at_bt (v := x :: (s.flatMap qb ++ 34 :: r)) h'
          obtain ⟨b1, b2, b3⟩ := at_bt a3
          refine step [x] b hq hb ?_ ?_ ?_
          · rw [hq, hesc (p : Int) (by omega) (by rw [show (p : Int) + 1 = ((p + 1 : Nat) : Int) by omega, b2])]
            simp
          · rw [hq]; simp only [List.length_cons, List.length_nil]; omega
          · rw [hq]; exact b3
        by_cases e3 : c = 10
        · exact short 110 10 (by unfold qb; rw [if_neg e1, if_neg e2, if_pos e3]) (by rw [e3]; rfl) (fun a g1 g2 => by unfold escM; rw [if_neg g1, g2]; rfl)
        · by_cases e4 : c = 13
          · exact short 114 13 (by unfold qb; rw [if_neg e1, if_neg e2, if_neg e3, if_pos e4]) (by rw [e4]; rfl) (fun a g1 g2 => by unfold escM; rw [if_neg g1, g2]; rfl)
          · by_cases e5 : c = 9
            · exact short 116 9 (by unfold qb; rw [if_neg e1, if_neg e2, if_neg e3, if_neg e4, if_pos e5]) (by rw [e5]; rfl) (fun a g1 g2 => by unfold escM; rw [if_neg g1, g2]; rfl)
            · have hq : qb c = [92, 120, hx (c.toNat / 16), hx (c.toNat % 16)] := by unfold qb; rw [if_neg e1, if_neg e2, if_neg e3, if_neg e4, if_neg e5]
              have h' := h
              rw [hq] at h'
              obtain ⟨a1, a2, a3⟩ := at_bt (v := 120 :: hx (c.toNat / 16) :: hx (c.toNat % 16) :: (s.flatMap qb ++ 34 :: r)) h'
              obtain ⟨b1, b2, b3⟩ := at_bt a3
              obtain ⟨c1, c2, c3⟩ := at_bt b3
              obtain ⟨d1, d2, d3⟩ := at_bt c3
              refine step [120, hx (c.toNat / 16), hx (c.toNat % 16)] (16 * ((c.toNat / 16 : Nat) : Int) + ((c.toNat % 16 : Nat) : Int)) hq ?_ ?_ ?_ ?_
              · rw [show (16 * ((c.toNat / 16 : Nat) : Int) + ((c.toNat % 16 : Nat) : Int)) = (c.toNat : Int) by omega]; simp
              · rw [hq]; unfold escM
                have x1 : bt t ((p : Int) + 1) = 120 := by rw [show (p : Int) + 1 = ((p + 1 : Nat) : Int) by omega, b2]; rfl
                have x2 : refHex (bt t ((p : Int) + 2)) = ((c.toNat / 16 : Nat) : Int) := by rw [show (p : Int) + 2 = ((p + 1 + 1 : Nat) : Int) by omega, c2]; exact hx_back _ (by omega)
                have x3 : refHex (bt t ((p : Int) + 3)) = ((c.toNat % 16 : Nat) : Int) := by rw [show (p : Int) + 3 = ((p + 1 + 1 + 1 : Nat) : Int) by omega, d2]; exact hx_back _ (by omega)
                rw [if_neg (by omega), x1, x2, x3]
                simp only
                rw [if_neg (by decide), if_neg (by decide), if_neg (by decide), if_neg (by decide), if_pos trivial, if_neg (by omega), if_neg (by omega), if_neg (by omega), if_neg (by omega)]
                simp
              · rw [hq]; simp only [List.length_cons, List.length_nil]; omega
              · rw [hq]; exact d3
theorem scan_quote {s : List UInt8} (h : (quoteL s).length ≤ 4096) : scanR (quoteL s) = ([(2, 0, s), (0, ((quoteL s).length : Int), [])], 0, 0) := by
  obtain ⟨t, ht⟩ : ∃ t, t = quoteL s := ⟨_, rfl⟩
  have hd : t.drop 0 = 34 :: (s.flatMap qb ++ [34]) := by rw [ht]; unfold quoteL; simp
  obtain ⟨h1, h2, h3⟩ := at_bt hd
  have hlen : t.length = (s.flatMap qb).length + 2 := by rw [ht]; unfold quoteL; simp
  have hsl : s.length ≤ (s.flatMap qb).length := by
    clear h ht hd h1 h2 h3 hlen
    induction s with
    | nil => simp
    | cons c s ih =>
      have : 1 ≤ (qb c).length := by
        unfold qb
        repeat' split
        all_goals simp
      rw [List.flatMap_cons, List.length_append, List.length_cons]; omega
  rw [← ht] at h ⊢
  have b0 : bt t 0 = 34 := h2
  have hb : (0 : Int) ≤ 0 ∧ (0 : Int) < t.length := ⟨by omega, by omega⟩
  have g0 : gapM t 0 = 0 := by
    unfold gapM
    rw [gapL_at false hb, b0, if_neg (by decide)]; rfl
  have hone : oneM t 0 = .ok ((2, 0, s), (t.length : Int)) := by
    unfold oneM
    rw [b0, if_neg (by decide), if_pos rfl]
    unfold quotedM
    have := quotedF_back (t := t) (fr := 0) (r := []) s (t.length + 1) 1 [] h3 (by omega)
    rw [show (0 : Int) + 1 = ((1 : Nat) : Int) by omega, this]
    simp only [List.nil_append]
    rw [show 1 + (s.flatMap qb).length + 1 = t.length by omega]
  have ge : gapM t t.length = t.length := by
    unfold gapM; rw [gap_end _ (Int.le_refl _)]; simp
  unfold scanR
  rw [if_neg (by omega), g0, scanF, if_pos hb.2, hone]
  simp only
  obtain ⟨n, hn⟩ : ∃ n, t.length = n + 1 := ⟨t.length - 1, by omega⟩
  rw [ge, hn, scanF, if_neg (by omega)]
  simp [← hn]

def lquoted_vc (s : List UInt8) (K : Bool → Prop) : Prop :=
  (s.length ≤ 1048576) ∧
  (
    (if (decide (4096 < ((quoteL s).length : Int))) = true then
      K ((andAll [decide ((scanR (quoteL s)).2.1 = 1), decide ((scanR (quoteL s)).2.2 = 0), decide (([] : List UInt8) = [])]) && (decide ((((scanR (quoteL s)).1).length : Int) = 0)))
    else
      (((andAll [decide ((scanR (quoteL s)).2.1 = 0), decide ((scanR (quoteL s)).2.2 = 0), decide (([] : List UInt8) = [])]) && (decide ((((scanR (quoteL s)).1).length : Int) = 2))) = true → (0 ≤ (0 : Int) ∧ (0 : Int) < (((scanR (quoteL s)).1).length : Int))) ∧
      ((((andAll [decide ((scanR (quoteL s)).2.1 = 0), decide ((scanR (quoteL s)).2.2 = 0), decide (([] : List UInt8) = [])]) && (decide ((((scanR (quoteL s)).1).length : Int) = 2))) && (andAll [decide ((((scanR (quoteL s)).1).getD ((0 : Int)).toNat default).1 = 2), decide ((((scanR (quoteL s)).1).getD ((0 : Int)).toNat default).2.1 = 0), decide ((((scanR (quoteL s)).1).getD ((0 : Int)).toNat default).2.2 = s)])) = true → (0 ≤ (1 : Int) ∧ (1 : Int) < (((scanR (quoteL s)).1).length : Int))) ∧
      K ((((andAll [decide ((scanR (quoteL s)).2.1 = 0), decide ((scanR (quoteL s)).2.2 = 0), decide (([] : List UInt8) = [])]) && (decide ((((scanR (quoteL s)).1).length : Int) = 2))) && (andAll [decide ((((scanR (quoteL s)).1).getD ((0 : Int)).toNat default).1 = 2), decide ((((scanR (quoteL s)).1).getD ((0 : Int)).toNat default).2.1 = 0), decide ((((scanR (quoteL s)).1).getD ((0 : Int)).toNat default).2.2 = s)])) && (andAll [decide ((((scanR (quoteL s)).1).getD ((1 : Int)).toNat default).1 = 0), decide ((((scanR (quoteL s)).1).getD ((1 : Int)).toNat default).2.1 = ((quoteL s).length : Int)), decide ((((scanR (quoteL s)).1).getD ((1 : Int)).toNat default).2.2 = [])]))))
set_option maxRecDepth 100000 in
theorem lquoted_wp  (s : List UInt8) (K : Bool → Prop) (h : lquoted_vc s K) :
    Does Try.prog 6 [st s] [] [] (fun o => (∃ (v : Bool), K v ∧ o = .ret (Value.bool v) []) ∨ (False)) := by
  unfold lquoted_vc at h
  refine does_of_wc (n := 51) (L0 := [(0, st s)]) Try.func6 rfl rfl rfl rfl (fun w0 M Q hE => ?_)
  refine wc_seq (fun K0 hK => ?_)
  refine wc_region ?_
  refine WL.val (OV.assign rfl) rfl rfl rfl ?_
  refine WL.nil ?_
  refine KX.go (hK [(0, st s)] _ ?_) ⟨rfl, trivial⟩
  refine wc_seq (fun K0_1' hK_1' => ?_)
  refine wc_region ?_
  refine WL.val (OV.move rfl) rfl rfl rfl ?_
  obtain ⟨o, h⟩ := h
  refine WL.call (A := []) tf_ent_14 rfl (quote_does s o) rfl trivial rfl rfl ?_
  refine WL.val (OV.assign rfl) rfl rfl rfl ?_
  refine WL.nil ?_
  refine KX.go (hK_1' [(0, st s), (3, st (quoteL s))] _ ?_) ⟨rfl, rfl, trivial⟩
  refine wc_seq (fun K0_2' hK_2' => ?_)
  refine wc_region ?_
  refine WL.val (OV.move rfl) rfl rfl rfl ?_
  refine WL.callS tf_ent_11 rfl (scan_does (quoteL s)) rfl trivial rfl rfl (fun r H' hS => ?_) (fun c H' hS => ?_)
  · obtain ⟨w, ho⟩ := hS
    cases ho
    refine WL.val (OV.move rfl) rfl rfl rfl ?_
    refine WL.val (OV.extract 0 rfl rfl) rfl rfl rfl ?_
    refine WL.val (OV.extract 1 rfl rfl) rfl rfl rfl ?_
    refine WL.make (MV.alloc tf_zero_29) rfl rfl rfl (fun b => ?_)
    refine WL.val (OV.assign rfl) rfl rfl rfl ?_
    refine WL.storeW (vs := [Value.int .i64 ((scanR (quoteL s)).2.1), Value.int .i64 ((scanR (quoteL s)).2.2), st []]) 0 rfl rfl rfl rfl rfl tf_size_29 rfl rfl rfl ?_
    refine WL.nil ?_
    refine KX.go (hK_2' [(0, st s), (3, st (quoteL s)), (4, w), (5, Value.pointer (some ⟨b, 0, none⟩))] _ ?_) ⟨rfl, rfl, rfl, rfl, trivial⟩
    refine wc_seq (fun K0_3' hK_3' => ?_)
    refine wc_seq (fun K0_4' hK_4' => ?_)
    refine wc_region ?_
    refine WL.call (A := []) tf_ent_9 rfl (speaks_does) rfl trivial rfl rfl ?_
    refine WL.val (OV.not rfl) rfl rfl rfl ?_
    refine WL.nil ?_
    refine KX.go (hK_4' [(0, st s), (3, st (quoteL s)), (4, w), (5, Value.pointer (some ⟨b, 0, none⟩)), (14, Value.bool false)] _ ?_) ⟨rfl, rfl, rfl, rfl, rfl, trivial⟩
    refine wc_condF rfl ?_
    refine wc_skip ?_
    refine KX.go (hK_3' [(0, st s), (3, st (quoteL s)), (4, w), (5, Value.pointer (some ⟨b, 0, none⟩))] _ ?_) ⟨rfl, rfl, rfl, rfl, trivial⟩
    refine wc_seq (fun K0_5' hK_5' => ?_)
    refine wc_seq (fun K0_6' hK_6' => ?_)
    refine wc_region ?_
    refine WL.val (OV.move rfl) rfl rfl rfl ?_
    refine WL.val (OV.len rfl tf_str_9) rfl rfl rfl ?_
    refine WL.val (OV.gtr rfl rfl) rfl rfl rfl ?_
    refine WL.nil ?_
    refine KX.go (hK_6' [(0, st s), (3, st (quoteL s)), (4, w), (5, Value.pointer (some ⟨b, 0, none⟩)), (17, Value.bool (decide (4096 < ((quoteL s).length : Int))))] _ ?_) ⟨rfl, rfl, rfl, rfl, rfl, trivial⟩
    refine wc_cond (b := decide (4096 < ((quoteL s).length : Int))) rfl (fun hb => ?_) (fun hb => ?_)
    · replace h := if_T h hb
      refine wc_seq (fun K0_7' hK_7' => ?_)
      refine wc_region ?_
      refine WL.val (OV.loadR rfl (At.own 0 rfl) tf_row_29) rfl rfl rfl ?_
      refine WL.val (OV.build rfl (cs := [Value.int .i64 1, Value.int .i64 0, st []]) rfl) rfl rfl rfl ?_
      refine WL.val (OV.eqlF (rs := [decide ((scanR (quoteL s)).2.1 = 1), decide ((scanR (quoteL s)).2.2 = 0), decide (([] : List UInt8) = [])]) rfl rfl Try.underlying29 tf_stood_29 tf_eqg_29 ⟨rfl, tf_scal_27, ⟨_, _, rfl, rfl, ScalEq.int Try.underlying27⟩, ⟨rfl, tf_scal_3, ⟨_, _, rfl, rfl, ScalEq.int Try.underlying3⟩, ⟨rfl, tf_scal_9, ⟨_, _, rfl, rfl, ScalEq.str Try.underlying9⟩, trivial⟩⟩⟩) rfl rfl rfl ?_
      refine WL.val (OV.move rfl) rfl rfl rfl ?_
      refine WL.cut 4 [(25, Value.bool ((andAll [decide ((scanR (quoteL s)).2.1 = 1), decide ((scanR (quoteL s)).2.2 = 0), decide (([] : List UInt8) = [])]) && (decide ((((scanR (quoteL s)).1).length : Int) = 0))))] ?_ (fun K0_8' hK_8' => ?_)
      rotate_left
      · refine WL.split (andAll [decide ((scanR (quoteL s)).2.1 = 1), decide ((scanR (quoteL s)).2.2 = 0), decide (([] : List UInt8) = [])]) (fun hb => ?_) (fun hb => ?_)
        · refine WL.set 21 rfl (congrArg Value.bool hb) ?_
          refine WL.val (OV.move rfl) rfl rfl rfl ?_
          refine WL.val (OV.lenRow 1 rfl rfl tf_sl_26) rfl rfl rfl ?_
          refine WL.val (OV.eql rfl rfl) rfl rfl rfl ?_
          refine WL.val (OV.pickT rfl rfl) rfl rfl rfl ?_
          refine WL.set 25 rfl (bT (v := decide ((((scanR (quoteL s)).1).length : Int) = 0)) hb) ?_
          exact WL.end_ (KX.go hK_8' ⟨rfl, trivial⟩)
        · refine WL.set 21 rfl (congrArg Value.bool hb) ?_
          refine WL.skip rfl rfl rfl ?_
          refine WL.skip rfl rfl rfl ?_
          refine WL.skip rfl rfl rfl ?_
          refine WL.val (OV.pickF rfl rfl) rfl rfl rfl ?_
          refine WL.set 25 rfl (bF (v := decide ((((scanR (quoteL s)).1).length : Int) = 0)) hb) ?_
          exact WL.end_ (KX.go hK_8' ⟨rfl, trivial⟩)
      refine WL.val (OV.assign rfl) rfl rfl rfl ?_
      refine WL.nil ?_
      refine KX.go (hK_7' [(2, Value.bool ((andAll [decide ((scanR (quoteL s)).2.1 = 1), decide ((scanR (quoteL s)).2.2 = 0), decide (([] : List UInt8) = [])]) && (decide ((((scanR (quoteL s)).1).length : Int) = 0))))] _ ?_) ⟨rfl, trivial⟩
      refine wc_ret ?_
      exact hE.ret [] rfl rfl (.inl ⟨_, h, rfl⟩) (ResV.of1 rfl (RV.tmp rfl))
    · replace h := if_F h hb
      refine wc_skip ?_
      refine KX.go (hK_5' [(0, st s), (3, st (quoteL s)), (4, w), (5, Value.pointer (some ⟨b, 0, none⟩))] _ ?_) ⟨rfl, rfl, rfl, rfl, trivial⟩
      refine wc_seq (fun K0_9' hK_9' => ?_)
      refine wc_region ?_
      refine WL.val (OV.loadR rfl (At.own 0 rfl) tf_row_29) rfl rfl rfl ?_
      refine WL.val (OV.build rfl (cs := [Value.int .i64 0, Value.int .i64 0, st []]) rfl) rfl rfl rfl ?_
      refine WL.val (OV.eqlF (rs := [decide ((scanR (quoteL s)).2.1 = 0), decide ((scanR (quoteL s)).2.2 = 0), decide (([] : List UInt8) = [])]) rfl rfl Try.underlying29 tf_stood_29 tf_eqg_29 ⟨rfl, tf_scal_27, ⟨_, _, rfl, rfl, ScalEq.int Try.underlying27⟩, ⟨rfl, tf_scal_3, ⟨_, _, rfl, rfl, ScalEq.int Try.underlying3⟩, ⟨rfl, tf_scal_9, ⟨_, _, rfl, rfl, ScalEq.str Try.underlying9⟩, trivial⟩⟩⟩) rfl rfl rfl ?_
      refine WL.val (OV.move rfl) rfl rfl rfl ?_
      refine WL.cut 4 [(0, st s), (3, st (quoteL s)), (4, w), (33, Value.bool ((andAll [decide ((scanR (quoteL s)).2.1 = 0), decide ((scanR (quoteL s)).2.2 = 0), decide (([] : List UInt8) = [])]) && (decide ((((scanR (quoteL s)).1).length : Int) = 2))))] ?_ (fun K0_10' hK_10' => ?_)
      rotate_left
      · refine WL.split (andAll [decide ((scanR (quoteL s)).2.1 = 0), decide ((scanR (quoteL s)).2.2 = 0), decide (([] : List UInt8) = [])]) (fun hb => ?_) (fun hb => ?_)
        · refine WL.set 29 rfl (congrArg Value.bool hb) ?_
          refine WL.val (OV.move rfl) rfl rfl rfl ?_
          refine WL.val (OV.lenRow 1 rfl rfl tf_sl_26) rfl rfl rfl ?_
          refine WL.val (OV.eql rfl rfl) rfl rfl rfl ?_
          refine WL.val (OV.pickT rfl rfl) rfl rfl rfl ?_
          refine WL.set 33 rfl (bT (v := decide ((((scanR (quoteL s)).1).length : Int) = 2)) hb) ?_
          exact WL.end_ (KX.go hK_10' ⟨rfl, rfl, rfl, rfl, trivial⟩)
        · refine WL.set 29 rfl (congrArg Value.bool hb) ?_
          refine WL.skip rfl rfl rfl ?_
          refine WL.skip rfl rfl rfl ?_
          refine WL.skip rfl rfl rfl ?_
          refine WL.val (OV.pickF rfl rfl) rfl rfl rfl ?_
          refine WL.set 33 rfl (bF (v := decide ((((scanR (quoteL s)).1).length : Int) = 2)) hb) ?_
          exact WL.end_ (KX.go hK_10' ⟨rfl, rfl, rfl, rfl, trivial⟩)
      refine WL.val (OV.move rfl) rfl rfl rfl ?_
      obtain ⟨o_4', h⟩ := h
      refine WL.cut 7 [(3, st (quoteL s)), (4, w), (41, Value.bool (((andAll [decide ((scanR (quoteL s)).2.1 = 0), decide ((scanR (quoteL s)).2.2 = 0), decide (([] : List UInt8) = [])]) && (decide ((((scanR (quoteL s)).1).length : Int) = 2))) && (andAll [decide ((((scanR (quoteL s)).1).getD ((0 : Int)).toNat default).1 = 2), decide ((((scanR (quoteL s)).1).getD ((0 : Int)).toNat default).2.1 = 0), decide ((((scanR (quoteL s)).1).getD ((0 : Int)).toNat default).2.2 = s)])))] ?_ (fun K0_11' hK_11' => ?_)
      rotate_left
      · refine WL.split ((andAll [decide ((scanR (quoteL s)).2.1 = 0), decide ((scanR (quoteL s)).2.2 = 0), decide (([] : List UInt8) = [])]) && (decide ((((scanR (quoteL s)).1).length : Int) = 2))) (fun hb => ?_) (fun hb => ?_)
        · have o_3' := o_4' hb
          refine WL.set 34 rfl (congrArg Value.bool hb) ?_
          refine WL.val (OV.move rfl) rfl rfl rfl ?_
          refine WL.val (OV.indexRow 1 rfl rfl rfl tf_sl_26 o_3') rfl rfl rfl ?_
          refine WL.val (OV.loadE (f := tokC) 1 rfl rfl tokC_len (by decide) (by omega) tf_row_34) rfl rfl rfl ?_
          refine WL.val (OV.move rfl) rfl rfl rfl ?_
          refine WL.val (OV.build rfl (cs := [Value.int .i64 2, Value.int .i64 0, st s]) rfl) rfl rfl rfl ?_
          refine WL.val (OV.eqlF (rs := [decide ((((scanR (quoteL s)).1).getD ((0 : Int)).toNat default).1 = 2), decide ((((scanR (quoteL s)).1).getD ((0 : Int)).toNat default).2.1 = 0), decide ((((scanR (quoteL s)).1).getD ((0 : Int)).toNat default).2.2 = s)]) rfl rfl Try.underlying34 tf_stood_34 tf_eqg_34 ⟨rfl, tf_scal_3, ⟨_, _, rfl, rfl, ScalEq.int Try.underlying3⟩, ⟨rfl, tf_scal_3, ⟨_, _, rfl, rfl, ScalEq.int Try.underlying3⟩, ⟨rfl, tf_scal_9, ⟨_, _, rfl, rfl, ScalEq.str Try.underlying9⟩, trivial⟩⟩⟩) rfl rfl rfl ?_
          refine WL.val (OV.pickT rfl rfl) rfl rfl rfl ?_
          refine WL.set 41 rfl (bT (v := andAll [decide ((((scanR (quoteL s)).1).getD ((0 : Int)).toNat default).1 = 2), decide ((((scanR (quoteL s)).1).getD ((0 : Int)).toNat default).2.1 = 0), decide ((((scanR (quoteL s)).1).getD ((0 : Int)).toNat default).2.2 = s)]) hb) ?_
          exact WL.end_ (KX.go hK_11' ⟨rfl, rfl, rfl, trivial⟩)
        · refine WL.set 34 rfl (congrArg Value.bool hb) ?_
          refine WL.skip rfl rfl rfl ?_
          refine WL.skip rfl rfl rfl ?_
          refine WL.skip rfl rfl rfl ?_
          refine WL.skip rfl rfl rfl ?_
          refine WL.skip rfl rfl rfl ?_
          refine WL.skip rfl rfl rfl ?_
          refine WL.val (OV.pickF rfl rfl) rfl rfl rfl ?_
          refine WL.set 41 rfl (bF (v := andAll [decide ((((scanR (quoteL s)).1).getD ((0 : Int)).toNat default).1 = 2), decide ((((scanR (quoteL s)).1).getD ((0 : Int)).toNat default).2.1 = 0), decide ((((scanR (quoteL s)).1).getD ((0 : Int)).toNat default).2.2 = s)]) hb) ?_
          exact WL.end_ (KX.go hK_11' ⟨rfl, rfl, rfl, trivial⟩)
      refine WL.val (OV.move rfl) rfl rfl rfl ?_
      obtain ⟨o_6', h⟩ := h
      refine WL.cut 8 [(50, Value.bool ((((andAll [decide ((scanR (quoteL s)).2.1 = 0), decide ((scanR (quoteL s)).2.2 = 0), decide (([] : List UInt8) = [])]) && (decide ((((scanR (quoteL s)).1).length : Int) = 2))) && (andAll [decide ((((scanR (quoteL s)).1).getD ((0 : Int)).toNat default).1 = 2), decide ((((scanR (quoteL s)).1).getD ((0 : Int)).toNat default).2.1 = 0), decide ((((scanR (quoteL s)).1).getD ((0 : Int)).toNat default).2.2 = s)])) && (andAll [decide ((((scanR (quoteL s)).1).getD ((1 : Int)).toNat default).1 = 0), decide ((((scanR (quoteL s)).1).getD ((1 : Int)).toNat default).2.1 = ((quoteL s).length : Int)), decide ((((scanR (quoteL s)).1).getD ((1 : Int)).toNat default).2.2 = [])])))] ?_ (fun K0_12' hK_12' => ?_)
      rotate_left
      · refine WL.split (((andAll [decide ((scanR (quoteL s)).2.1 = 0), decide ((scanR (quoteL s)).2.2 = 0), decide (([] : List UInt8) = [])]) && (decide ((((scanR (quoteL s)).1).length : Int) = 2))) && (andAll [decide ((((scanR (quoteL s)).1).getD ((0 : Int)).toNat default).1 = 2), decide ((((scanR (quoteL s)).1).getD ((0 : Int)).toNat default).2.1 = 0), decide ((((scanR (quoteL s)).1).getD ((0 : Int)).toNat default).2.2 = s)])) (fun hb => ?_) (fun hb => ?_)
        · have o_5' := o_6' hb
          refine WL.set 42 rfl (congrArg Value.bool hb) ?_
          refine WL.val (OV.move rfl) rfl rfl rfl ?_
          refine WL.val (OV.indexRow 1 rfl rfl rfl tf_sl_26 o_5') rfl rfl rfl ?_
          refine WL.val (OV.loadE (f := tokC) 1 rfl rfl tokC_len (by decide) (by omega) tf_row_34) rfl rfl rfl ?_
          refine WL.val (OV.move rfl) rfl rfl rfl ?_
          refine WL.val (OV.len rfl tf_str_9) rfl rfl rfl ?_
          refine WL.val (OV.build rfl (cs := [Value.int .i64 0, Value.int .i64 ((quoteL s).length : Int), st []]) rfl) rfl rfl rfl ?_
          refine WL.val (OV.eqlF (rs := [decide ((((scanR (quoteL s)).1).getD ((1 : Int)).toNat default).1 = 0), decide ((((scanR (quoteL s)).1).getD ((1 : Int)).toNat default).2.1 = ((quoteL s).length : Int)), decide ((((scanR (quoteL s)).1).getD ((1 : Int)).toNat default).2.2 = [])]) rfl rfl Try.underlying34 tf_stood_34 tf_eqg_34 ⟨rfl, tf_scal_3, ⟨_, _, rfl, rfl, ScalEq.int Try.underlying3⟩, ⟨rfl, tf_scal_3, ⟨_, _, rfl, rfl, ScalEq.int Try.underlying3⟩, ⟨rfl, tf_scal_9, ⟨_, _, rfl, rfl, ScalEq.str Try.underlying9⟩, trivial⟩⟩⟩) rfl rfl rfl ?_
          refine WL.val (OV.pickT rfl rfl) rfl rfl rfl ?_
          refine WL.set 50 rfl (bT (v := andAll [decide ((((scanR (quoteL s)).1).getD ((1 : Int)).toNat default).1 = 0), decide ((((scanR (quoteL s)).1).getD ((1 : Int)).toNat default).2.1 = ((quoteL s).length : Int)), decide ((((scanR (quoteL s)).1).getD ((1 : Int)).toNat default).2.2 = [])]) hb) ?_
          exact WL.end_ (KX.go hK_12' ⟨rfl, trivial⟩)
        · refine WL.set 42 rfl (congrArg Value.bool hb) ?_
          refine WL.skip rfl rfl rfl ?_
          refine WL.skip rfl rfl rfl ?_
          refine WL.skip rfl rfl rfl ?_
          refine WL.skip rfl rfl rfl ?_
          refine WL.skip rfl rfl rfl ?_
          refine WL.skip rfl rfl rfl ?_
          refine WL.skip rfl rfl rfl ?_
          refine WL.val (OV.pickF rfl rfl) rfl rfl rfl ?_
          refine WL.set 50 rfl (bF (v := andAll [decide ((((scanR (quoteL s)).1).getD ((1 : Int)).toNat default).1 = 0), decide ((((scanR (quoteL s)).1).getD ((1 : Int)).toNat default).2.1 = ((quoteL s).length : Int)), decide ((((scanR (quoteL s)).1).getD ((1 : Int)).toNat default).2.2 = [])]) hb) ?_
          exact WL.end_ (KX.go hK_12' ⟨rfl, trivial⟩)
      refine WL.val (OV.assign rfl) rfl rfl rfl ?_
      refine WL.nil ?_
      refine KX.go (hK_9' [(2, Value.bool ((((andAll [decide ((scanR (quoteL s)).2.1 = 0), decide ((scanR (quoteL s)).2.2 = 0), decide (([] : List UInt8) = [])]) && (decide ((((scanR (quoteL s)).1).length : Int) = 2))) && (andAll [decide ((((scanR (quoteL s)).1).getD ((0 : Int)).toNat default).1 = 2), decide ((((scanR (quoteL s)).1).getD ((0 : Int)).toNat default).2.1 = 0), decide ((((scanR (quoteL s)).1).getD ((0 : Int)).toNat default).2.2 = s)])) && (andAll [decide ((((scanR (quoteL s)).1).getD ((1 : Int)).toNat default).1 = 0), decide ((((scanR (quoteL s)).1).getD ((1 : Int)).toNat default).2.1 = ((quoteL s).length : Int)), decide ((((scanR (quoteL s)).1).getD ((1 : Int)).toNat default).2.2 = [])])))] _ ?_) ⟨rfl, trivial⟩
      refine wc_ret ?_
      exact hE.ret [] rfl rfl (.inl ⟨_, h, rfl⟩) (ResV.of1 rfl (RV.tmp rfl))
  · obtain ⟨w, ho⟩ := hS
    cases ho

theorem tokenQuoted_does (s : List UInt8) (h : s.length ≤ 1048576) : Does Try.prog 6 [st s] [] [] (Ret (.bool true) []) := by
  refine (lquoted_wp s (fun r => r = true) ?_).weak (by rintro o (⟨v, rfl, rfl⟩ | h) <;> first | rfl | exact h.elim)
  unfold lquoted_vc
  refine ⟨h, ?_⟩
  by_cases h4 : 4096 < (quoteL s).length
  · have hr : scanR (quoteL s) = ([], 1, 0) := by unfold scanR; rw [if_pos h4]
    rw [if_pos (by simp; omega), hr]; simp [andAll]
  · rw [if_neg (by simp; omega), scan_quote (by omega)]
    simp [andAll]
theorem tokenQuoted_walk (s : ByteArray) (h : s.data.toList.length ≤ 1048576) : Pure Try.prog 6 #[.string s] (.bool true) := Does.pure (tokenQuoted_does s.data.toList h)

end Go.Proofs.Ytiaafdjdppganaa
