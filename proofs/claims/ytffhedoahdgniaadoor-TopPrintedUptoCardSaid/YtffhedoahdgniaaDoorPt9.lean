/-
  Merged: MbV, MbW, RxC.
-/
import Derived.Test.YtffhedoahdgniaaDoorPt8
set_option maxRecDepth 100000
namespace Go.Proofs.YtffhedoahdgniaaDoor
open Go Go.RowKit
theorem w3 : slB Tryd.prog 70 4 1 = true := by kernel_rfl
theorem arh : afn Tryd.prog 102 = some ([Value.slice none 0 0], 1, 24) := by kernel_rfl
theorem agn : slB Tryd.prog 99 102 1 = true := by kernel_rfl
theorem abi : m5 Tryd.prog 101 2 = some 3 := by kernel_rfl
theorem aug : s7 Tryd.prog 99 1 = true := by kernel_rfl
theorem afw : aaj Tryd.prog 99 = true := by kernel_rfl
theorem atc : afn Tryd.prog 70 = some ([Value.slice none 0 0], 1, 24) := by kernel_rfl
theorem ahe : slB Tryd.prog 102 70 1 = true := by kernel_rfl
theorem ar0 : s7 Tryd.prog 102 1 = true := by kernel_rfl
theorem agy : aaj Tryd.prog 102 = true := by kernel_rfl
theorem al7 : aaj Tryd.prog 70 = true := by kernel_rfl
theorem aa0 : m5 Tryd.prog 101 1 = some 2 := by kernel_rfl
theorem aw0 : afn Tryd.prog 4 = some ([zB false], 1, 1) := by kernel_rfl
theorem amg : m5 Tryd.prog 101 0 = some 0 := by kernel_rfl
theorem adz : r8 Tryd.prog 25 = true := by kernel_rfl
theorem apc : r8 Tryd.prog 37 = true := by kernel_rfl
theorem au2 : s7 Tryd.prog 70 1 = true := by kernel_rfl
def an9 (out : List Bool) (more : List Bool) (K : (List Bool) → Prop) : Prop :=
 ∃ (Inv : Int → (List Bool) → Prop) (mu : Int → (List Bool) → Nat),
  Inv 0 out ∧ ∀ (j_1' : Int) (l_1' : List Bool), Inv j_1' l_1' →
   (if (decide (j_1' < (l_1'.length : Int))) = true then
    (0 ≤ j_1' ∧ j_1' < (l_1'.length : Int)) ∧
    ((l_1'.getD (j_1').toNat default) = false → (0 ≤ j_1' ∧ j_1' < (more.length : Int))) ∧
    (0 ≤ j_1' ∧ j_1' < (l_1'.length : Int)) ∧
    (I64 (j_1' + 1)) ∧
    Inv (j_1' + 1) (l_1'.set ((j_1').toNat) ((l_1'.getD (j_1').toNat default) || (more.getD (j_1').toNat default))) ∧ mu (j_1' + 1) (l_1'.set ((j_1').toNat) ((l_1'.getD (j_1').toNat default) || (more.getD (j_1').toNat default))) < mu j_1' l_1'
   else
    K l_1')
theorem az1 (w : Value) (w_1' : Value) (out : List Bool) (more : List Bool) (Ri1 : List (Nat × Obj)) (hRi1 : aeb w_1' Ri1 more.length (more.flatMap q7)) (K : (List Bool) → Prop) (h : an9 out more K) :
  d5 Tryd.prog 37 [w, w_1'] (Ri1 ++ []) [HA.row w 4 1 out.length (out.flatMap q7)] (fun o => (∃ (d : List Bool), K d ∧ o = .ret (Value.tuple #[]) [HA.row w 4 1 d.length (d.flatMap q7)]) ∨ (False)) := by
 unfold an9 at h
 refine c8 (n := 24) (L0 := [(0, w), (1, w_1')]) Tryd.func37 rfl rfl rfl rfl (fun w0 M Q hE => ?_)
 have hi1 : LIn ⟨24, [], w0, M, (Ri1 ++ [])⟩ w_1' more.length (more.flatMap q7) := LIn.mk hRi1 (fun p hp => by simp [hp])
 refine a6 (fun _ hK => ?_)
 refine a4 ?_
 refine wa ?_
 refine WL.nil ?_
 refine kg (hK [(0, w), (1, w_1'), (4, zI 0)] _ ?_)
 refine d6 ?_
 obtain ⟨Inv, mu, h0, hr⟩ := h
 refine w9 (S := Int × (List Bool)) (fun σ => Inv σ.1 σ.2) (fun σ => mu σ.1 σ.2) (fun σ => [(0, w), (1, w_1'), (4, zI σ.1)]) (fun σ => [HA.row w 4 1 σ.2.length (σ.2.flatMap q7)]) (0, out) h0 ⟨rfl, rfl, rfl, trivial⟩ rfl ?_
 rintro ⟨j_1', l_1'⟩ hi K0_9' hK_9'
 have h := hr j_1' l_1' hi
 show WC _ _ _ _ [(0, w), (1, w_1'), (4, zI j_1')] [HA.row w 4 1 l_1'.length (l_1'.flatMap q7)]
 refine a6 (fun _ hK_10' => ?_)
 refine a6 (fun _ hK_11' => ?_)
 refine a4 ?_
 refine wm ?_
 refine wm ?_
 refine wv (OV.lenRow 0 rfl rfl w3) ?_
 refine wv (OV.lss rfl rfl) ?_
 refine WL.nil ?_
 refine kg (hK_11' [(0, w), (1, w_1'), (4, zI j_1'), (8, zB (decide (j_1' < (l_1'.length : Int))))] _ ?_)
 refine b6 (b := decide (j_1' < (l_1'.length : Int))) rfl (fun hb => ?_) (fun hb => ?_)
 ·replace h := j4 h hb
  refine b7 ?_
  refine kg (hK_10' [(0, w), (1, w_1'), (4, zI j_1')] _ ?_)
  refine a6 (fun _ hK_12' => ?_)
  refine d6 ?_
  refine a4 ?_
  refine wm ?_
  refine wm ?_
  refine wm ?_
  refine wm ?_
  obtain ⟨o_9', h⟩ := h
  refine wv (OV.indexRow 0 rfl rfl rfl w3 o_9') ?_
  refine wv (OV.loadE1 (f := q7) 0 rfl rfl aam (by omega) rfl aad) ?_
  refine wm ?_
  obtain ⟨o_11', h⟩ := h
  refine WL.cut 5 [(0, w), (1, w_1'), (4, zI j_1'), (11, w), (12, zI j_1'), (22, zB ((l_1'.getD (j_1').toNat default) || (more.getD (j_1').toNat default)))] ?_ (fun K0_13' hK_13' => ?_)
  rotate_left
  ·refine WL.split ((l_1'.getD (j_1').toNat default)) (fun hb => ?_) (fun hb => ?_)
   ·refine WL.set 17 rfl (congrArg zB hb) ?_
    refine wk ?_
    refine wk ?_
    refine wk ?_
    refine wk ?_
    refine wv (OV.pickT rfl rfl) ?_
    refine WL.set 22 rfl (oT (v := (more.getD (j_1').toNat default)) hb) ?_
    exact WL.end_ (kg hK_13')
   ·have o_10' := o_11' hb
    refine WL.set 17 rfl (congrArg zB hb) ?_
    refine wm ?_
    refine wm ?_
    refine wv (OV.indexIn hi1 rfl rfl w3 o_10') ?_
    refine wv (OV.loadInE1 (f := q7) hi1 rfl aam (by omega) rfl aad) ?_
    refine wv (OV.pickF rfl rfl) ?_
    refine WL.set 22 rfl (oF (v := (more.getD (j_1').toNat default)) hb) ?_
    exact WL.end_ (kg hK_13')
  obtain ⟨o_12', h⟩ := h
  refine wv (OV.indexRow 0 rfl rfl rfl w3 o_12') ?_
  refine WL.storeE (f := q7) (z := (l_1'.getD (j_1').toNat default) || (more.getD (j_1').toNat default)) 0 rfl rfl rfl aam (by decide) (by omega) rfl aau rfl rfl ?_
  refine WL.nil ?_
  refine kg (hK_12' [(0, w), (1, w_1'), (4, zI j_1')] _ ?_)
  refine a4 ?_
  refine wm ?_
  obtain ⟨o_13', h⟩ := h
  refine wv (OV.add rfl rfl o_13') ?_
  refine wa ?_
  refine WL.nil ?_
  exact kh (hK_9' (j_1' + 1, l_1'.set ((j_1').toNat) ((l_1'.getD (j_1').toNat default) || (more.getD (j_1').toNat default))) h.1 h.2) [0]
 ·replace h := j5 h hb
  refine s5 ?_
  exact hE.norm [0] rfl rfl (.inl ⟨_, h, rfl⟩) (f9.none rfl)
def orL (a b : List Bool) : List Bool := List.zipWith (· || ·) a b
theorem ajv {a b : List Bool} (h : a.length = b.length) : (orL a b).length = a.length := by unfold orL; rw [List.length_zipWith]; omega
theorem alr {l : List Bool} {j : Nat} (h : j < l.length) : l[j]? = some (l.getD j default) := by
 rw [List.getElem?_eq_getElem h, List.getD_eq_getElem?_getD, List.getElem?_eq_getElem h]; rfl
theorem al6 (v : Value) (a : List Bool) (v2 : Value) (b : List Bool) (hl : a.length = b.length ∧ a.length ≤ 281474976710656) (R : List (Nat × Obj)) (hR : aeb v2 R b.length (b.flatMap q7)) :
  d5 Tryd.prog 37 [v, v2] (R ++ []) [.row v 4 1 a.length (a.flatMap q7)] (Ret (.tuple #[]) [.row v 4 1 (orL a b).length ((orL a b).flatMap q7)]) := by
 refine (az1 v v2 a b R hR (fun d => d = orL a b) ?_).weak ?_
 ·unfold an9
  have hol := ajv hl.1
  refine ⟨fun j l => 0 ≤ j ∧ l.length = a.length ∧ (∀ i : Nat, i < j.toNat → l[i]? = (orL a b)[i]?) ∧ (∀ i : Nat, j.toNat ≤ i → l[i]? = a[i]?), fun j _ => (a.length - j).toNat, ⟨by omega, rfl, fun i hi => by simp at hi, fun i _ => rfl⟩, ?_⟩
  rintro j l ⟨j0, hlen, h1, h2⟩
  by_cases hj : j < l.length
  ·rw [if_pos (by simpa using hj)]
   refine ⟨⟨j0, hj⟩, fun _ => ⟨j0, by omega⟩, ⟨j0, hj⟩, by unfold I64; omega, ⟨by omega, by rw [List.length_set]; exact hlen, fun i hi => ?_, fun i hi => ?_⟩, by show (a.length - (j + 1)).toNat < (a.length - j).toNat; omega⟩
   ·by_cases hij : i = j.toNat
    ·subst hij
     rw [List.getElem?_set_self (by omega)]
     have ha : j.toNat < a.length := by omega
     have hb : j.toNat < b.length := by omega
     have e1 := h2 j.toNat (Nat.le_refl _)
     rw [alr (by omega), alr ha] at e1
     rw [Option.some.inj e1]
     unfold orL
     rw [List.getElem?_zipWith, alr ha, alr hb]
    ·rw [List.getElem?_set_ne (by omega)]
     exact h1 i (by omega)
   ·rw [List.getElem?_set_ne (by omega)]
    exact h2 i (by omega)
  ·rw [if_neg (by simpa using hj)]
   refine List.ext_getElem? fun i => ?_
   by_cases hi : i < j.toNat
   ·exact h1 i hi
   ·rw [List.getElem?_eq_none (by omega), List.getElem?_eq_none (by omega)]
 ·rintro o (⟨d, rfl, rfl⟩ | h)
  ·rfl
  ·cases h
theorem a01 (d : ND) {j : Nat} (h : j < 256) : (ndC d)[1 + j * 1]? = some (zB (d.2.1 j)) := by
 unfold ndC
 rw [List.append_assoc, List.singleton_append, show 1 + j * 1 = j + 1 by omega, List.getElem?_cons_succ, List.getElem?_append_left (by rw [d8]; exact h)]
 exact acu h
def ajk (a : List Bool) (B : Nat → List Bool) : Nat → Nat → List Bool → List Bool
 | 0, _, out => out
 | f + 1, j, out => ajk a B f (j + 1) (if a.getD j default = true then orL out (B j) else out)
def aem (B : Nat → List Bool) : Nat → Nat → List Bool → List Bool
 | 0, _, out => out
 | f + 1, j, out => aem B f (j + 1) (if out.getD j default = true then orL out (B j) else out)
def aib (op : Bool → Bool → Bool) (a b : List Bool) : Nat → Nat → List Bool → List Bool
 | 0, _, out => out
 | f + 1, j, out => aib op a b f (j + 1) (out.set j (op (a.getD j default) (b.getD j default)))
def m9 (s : List UInt8) : Tr → Nat → List Bool
 | .none, _ => o5 ((s.length : Int) + 1)
 | .eps, k => (o5 ((s.length : Int) + 1)).set k true
 | .cls c, k => if k < s.length ∧ c.getLsbD (s.getD k 0).toNat = true then (o5 ((s.length : Int) + 1)).set (k + 1) true else o5 ((s.length : Int) + 1)
 | .cat a b, k => ajk (m9 s a k) (m9 s b) (s.length + 1 - k) k (o5 ((s.length : Int) + 1))
 | .star a, k => aem (m9 s a) (s.length + 1 - k) k ((o5 ((s.length : Int) + 1)).set k true)
 | .alt a b, k => aib (· || ·) (m9 s a k) (m9 s b k) (s.length + 1 - k) k (o5 ((s.length : Int) + 1))
 | .and a b, k => aib (· && ·) (m9 s a k) (m9 s b k) (s.length + 1 - k) k (o5 ((s.length : Int) + 1))
 | .minus a b, k => aib (fun x y => x && !y) (m9 s a k) (m9 s b k) (s.length + 1 - k) k (o5 ((s.length : Int) + 1))
theorem abj (s : List UInt8) : (o5 ((s.length : Int) + 1)).length = s.length + 1 := by rw [abb, List.length_replicate]; omega
theorem arm {a : List Bool} {B : Nat → List Bool} {n : Nat} (hB : ∀ j, (B j).length = n) : ∀ (f j : Nat) (out : List Bool), out.length = n → (ajk a B f j out).length = n
 | 0, _, _, h => h
 | f + 1, j, out, h => by
  unfold ajk
  refine arm hB f (j + 1) _ ?_
  split
  ·rw [ajv (by rw [h, hB]), h]
  ·exact h
theorem apq {B : Nat → List Bool} {n : Nat} (hB : ∀ j, (B j).length = n) : ∀ (f j : Nat) (out : List Bool), out.length = n → (aem B f j out).length = n
 | 0, _, _, h => h
 | f + 1, j, out, h => by
  unfold aem
  refine apq hB f (j + 1) _ ?_
  split
  ·rw [ajv (by rw [h, hB]), h]
  ·exact h
theorem as1 {op : Bool → Bool → Bool} {a b : List Bool} {n : Nat} : ∀ (f j : Nat) (out : List Bool), out.length = n → (aib op a b f j out).length = n
 | 0, _, _, h => h
 | f + 1, j, out, h => by
  unfold aib
  exact as1 f (j + 1) _ (by rw [List.length_set]; exact h)
theorem aas (s : List UInt8) : ∀ (x : Tr) (k : Nat), (m9 s x k).length = s.length + 1
 | .none, k => by unfold m9; exact abj s
 | .eps, k => by unfold m9; rw [List.length_set]; exact abj s
 | .cls c, k => by
  unfold m9
  split
  ·rw [List.length_set]; exact abj s
  ·exact abj s
 | .cat a b, k => by
  unfold m9
  exact arm (aas s b) _ _ _ (abj s)
 | .star a, k => by
  unfold m9
  exact apq (aas s a) _ _ _ (by rw [List.length_set]; exact abj s)
 | .alt a b, k | .and a b, k | .minus a b, k => by
  unfold m9
  exact as1 _ _ _ (abj s)
def ai9 (nl : List ND) (c : TabC) (σ : List TE) : Prop := ∀ e ∈ σ, e.2.2.2 = m9 c.s (u6 nl e.1) e.2.1
def ait (nl : List ND) (c : TabC) (σ : List TE) (i k : Int) (u : Value) (d : List TE) (l : List Bool) : Prop := ai9 nl c d ∧ (∀ e ∈ σ, e ∈ d) ∧ InT d u l ∧ l = m9 c.s (u6 nl i) k.toNat
def aof (nl : List ND) (c : TabC) (σ : List TE) (i k : Int) : Prop := ∀ R, aeb c.w R nl.length (nl.flatMap ndC) →
 d5 Tryd.prog 25 [.pointer (some ⟨c.b, 0, none⟩), .int .i64 i, .int .i64 k] (R ++ []) [tab c σ] (fun o => ∃ u d l, ait nl c σ i k u d l ∧ o = .ret u [tab c d])
def aqu (_ : Int) (rel : List ND) (s : List UInt8) (K : List Value → List Value → Prop) : Prop :=
 (0 ≤ (rel.length : Int) ∧ (24 : Int) * (rel.length : Int) ≤ 281474976710656 ∧ (rel.length : Int) ≤ 9223372036854775807) ∧
 ∀ (_w_1' : Value),
 ∃ (Inv : Int → (List Value) → (List Value) → Prop) (mu : Int → (List Value) → (List Value) → Nat),
  Inv 0 (List.replicate (rel.length : Int).toNat (Value.slice none 0 0)) [] ∧ ∀ (i_1' : Int) (l_1' : List Value) (c_1' : List Value), Inv i_1' l_1' c_1' →
   (if (decide (i_1' < (rel.length : Int))) = true then
    (I64 ((s.length : Int) + 1)) ∧
    (0 ≤ ((s.length : Int) + 1) ∧ (24 : Int) * ((s.length : Int) + 1) ≤ 281474976710656 ∧ ((s.length : Int) + 1) ≤ 9223372036854775807) ∧
    ∀ (w_4' : Value),
    (0 ≤ i_1' ∧ i_1' < (l_1'.length : Int)) ∧
    ((i_1').toNat < l_1'.length) ∧
    (I64 (i_1' + 1)) ∧
    Inv (i_1' + 1) (l_1'.set ((i_1').toNat) w_4') (c_1' ++ [w_4']) ∧ mu (i_1' + 1) (l_1'.set ((i_1').toNat) w_4') (c_1' ++ [w_4']) < mu i_1' l_1' c_1'
   else
    K l_1' c_1')
theorem a0r (w : Value) (re_1 : Int) (rel : List ND) (s : List UInt8) (Ri1 : List (Nat × Obj)) (hRi1 : aeb w Ri1 rel.length (rel.flatMap ndC)) (K : List Value → List Value → Prop) (h : aqu re_1 rel s K) :
  d5 Tryd.prog 24 [Value.agg [w, zI re_1].toArray, st s] (Ri1 ++ []) [] (fun o => (∃ (b9 : Nat) (E9 : Value) (l9 rs9 : List Value), K l9 rs9 ∧ o = .ret (zP b9) [HA.blk b9 (.cells [w, zI re_1, st s, E9].toArray 101 (0, 0)), HA.row E9 102 1 l9.length (l9.flatMap acw), aeo s.length rs9]) ∨ (False)) := by
 unfold aqu at h
 refine c8 (n := 36) (L0 := [(0, Value.agg [w, zI re_1].toArray), (1, st s)]) Tryd.func24 rfl rfl rfl rfl (fun w0 M Q hE => ?_)
 have hi1 : LIn ⟨36, [], w0, M, (Ri1 ++ [])⟩ w rel.length (rel.flatMap ndC) := LIn.mk hRi1 (fun p hp => by simp [hp])
 refine WC.newRows s.length ?_
 refine a6 (fun _ hK => ?_)
 refine a4 ?_
 refine WL.make (MV.box (cs := [w, zI re_1]) rfl rfl) rfl rfl rfl (fun b => ?_)
 refine wa ?_
 refine WL.nil ?_
 refine kg (hK [(1, st s), (2, zP b)] _ ?_)
 refine a6 (fun _ hK_1' => ?_)
 refine a4 ?_
 refine wv (OV.loadR rfl (At.own 0 rfl) x4) ?_
 refine wm ?_
 refine wv (OV.build rfl (cs := [w, zI re_1, st s, Value.slice none 0 0]) rfl) ?_
 refine WL.make (MV.box (cs := [w, zI re_1, st s, Value.slice none 0 0]) rfl rfl) rfl rfl rfl (fun b_1' => ?_)
 refine WL.nilRow 102 1 acw ?_
 refine wa ?_
 refine WL.nil ?_
 refine kg (hK_1' [(1, st s), (2, zP b), (5, zP b_1')] _ ?_)
 refine a6 (fun _ hK_2' => ?_)
 refine a4 ?_
 refine wm ?_
 refine wv (OV.fieldAddr0 rfl x9) ?_
 refine wv (OV.load rfl (At.own 2 rfl) rfl v8) ?_
 refine wv (OV.lenIn hi1 rfl p9) ?_
 obtain ⟨o, h⟩ := h
 refine WL.makeRow (zero := Value.slice none 0 0) rfl rfl agn arh o acw rfl afe rfl rfl (fun w_1' => ?_)
 replace h := h w_1'
 refine wv (OV.nilCheck rfl) ?_
 refine wv (OV.fieldAddr0 rfl abi) ?_
 refine WL.storeSl (cs' := [w, zI re_1, st s, w_1']) 2 0 rfl rfl rfl rfl aug (Nat.le_of_ble_eq_true rfl) rfl rfl ?_
 refine WL.nil ?_
 refine kg (hK_2' [(1, st s), (2, zP b), (5, zP b_1')] _ ?_)
 refine a6 (fun _ hK_3' => ?_)
 refine a6 (fun _ hK_4' => ?_)
 refine a4 ?_
 refine wa ?_
 refine WL.nil ?_
 refine kg (hK_4' [(1, st s), (2, zP b), (5, zP b_1'), (6, zI 0)] _ ?_)
 refine d6 ?_
 refine WC.pick (H' := [HA.row w_1' 102 1 (List.replicate (rel.length : Int).toNat (Value.slice none 0 0)).length ((List.replicate (rel.length : Int).toNat (Value.slice none 0 0)).flatMap acw), HA.blk b_1' (.cells [w, zI re_1, st s, w_1'].toArray 101 (0, 0)), HA.blk b (.cells [w, zI re_1].toArray 32 (0, 0)), aeo s.length ([] : List Value)]) [0, 2, 3, 4] rfl rfl ?_
 obtain ⟨Inv, mu, h0, hr⟩ := h
 refine w9 (S := Int × (List Value) × (List Value)) (fun σ => Inv σ.1 σ.2.1 σ.2.2) (fun σ => mu σ.1 σ.2.1 σ.2.2) (fun σ => [(1, st s), (2, zP b), (5, zP b_1'), (6, zI σ.1)]) (fun σ => [HA.row w_1' 102 1 σ.2.1.length (σ.2.1.flatMap acw), HA.blk b_1' (.cells [w, zI re_1, st s, w_1'].toArray 101 (0, 0)), HA.blk b (.cells [w, zI re_1].toArray 32 (0, 0)), aeo s.length σ.2.2]) (0, List.replicate (rel.length : Int).toNat (Value.slice none 0 0), []) h0 ⟨rfl, rfl, rfl, rfl, trivial⟩ rfl ?_
 rintro ⟨i_1', l_1', c_1'⟩ hi K0_11' hK_11'
 have h := hr i_1' l_1' c_1' hi
 show WC _ _ _ _ [(1, st s), (2, zP b), (5, zP b_1'), (6, zI i_1')] [HA.row w_1' 102 1 l_1'.length (l_1'.flatMap acw), HA.blk b_1' (.cells [w, zI re_1, st s, w_1'].toArray 101 (0, 0)), HA.blk b (.cells [w, zI re_1].toArray 32 (0, 0)), aeo s.length c_1']
 refine a6 (fun _ hK_12' => ?_)
 refine a6 (fun _ hK_13' => ?_)
 refine a4 ?_
 refine wm ?_
 refine wv (OV.fieldAddr0 rfl x9) ?_
 refine wv (OV.load rfl (At.own 2 rfl) rfl v8) ?_
 refine wv (OV.lenIn hi1 rfl p9) ?_
 refine wv (OV.lss rfl rfl) ?_
 refine WL.nil ?_
 refine kg (hK_13' [(1, st s), (2, zP b), (5, zP b_1'), (6, zI i_1'), (22, zB (decide (i_1' < (rel.length : Int))))] _ ?_)
 refine b6 (b := decide (i_1' < (rel.length : Int))) rfl (fun hb => ?_) (fun hb => ?_)
 ·replace h := j4 h hb
  refine b7 ?_
  refine kg (hK_12' [(1, st s), (2, zP b), (5, zP b_1'), (6, zI i_1')] _ ?_)
  refine a6 (fun _ hK_14' => ?_)
  refine d6 ?_
  refine x1 8 [0, 1, 2, 3] [HA.row w_1' 102 1 l_1'.length (l_1'.flatMap acw), HA.blk b_1' (.cells [w, zI re_1, st s, w_1'].toArray 101 (0, 0)), HA.blk b (.cells [w, zI re_1].toArray 32 (0, 0)), aeo s.length c_1'] rfl rfl g8 (by kernel_rfl) (fun T_2' hT_2' => ?_)
  refine TW.val (OV.move rfl) rfl rfl rfl ?_
  refine TW.val (OV.nilCheck rfl) rfl rfl rfl ?_
  refine TW.val (OV.fieldAddr0 rfl abi) rfl rfl rfl ?_
  refine TW.val (OV.load rfl (At.own 1 rfl) rfl afw) rfl rfl rfl ?_
  refine TW.val (OV.move rfl) rfl rfl rfl ?_
  refine TW.val (OV.move rfl) rfl rfl rfl ?_
  refine TW.val (OV.len rfl j7) rfl rfl rfl ?_
  obtain ⟨o_10', h⟩ := h
  refine TW.val (OV.add rfl rfl o_10') rfl rfl rfl ?_
  refine TW.nil (hT_2' _ ?_)
  obtain ⟨o_11', h⟩ := h
  refine WLX.valX (ap4 (zero := Value.slice none 0 0) rfl rfl ahe atc o_11' acw rfl afe) [1, 2, 3, 4] rfl (fun _ _ e => by cases e; rfl) rfl rfl rfl (fun w_4' _ e => ?_)
  cases e
  replace h := h w_4'
  obtain ⟨o_12', h⟩ := h
  refine WLX.op [1, 2, 3, 4] rfl rfl (OpK.val (OV.indexRow 1 rfl rfl rfl agn o_12') rfl rfl) rfl ?_
  obtain ⟨o_13', h⟩ := h
  refine WLX.opZ (OpK.storeRV 1 0 rfl rfl rfl rfl o_13' ar0) rfl ?_
  refine WLX.nil ?_
  refine QX.pick (H' := [HA.row w_4' 70 1 (List.replicate ((s.length : Int) + 1).toNat (Value.slice none 0 0)).length ((List.replicate ((s.length : Int) + 1).toNat (Value.slice none 0 0)).flatMap acw), aeo s.length c_1', HA.row w_1' 102 1 (l_1'.set ((i_1').toNat) w_4').length ((l_1'.set ((i_1').toNat) w_4').flatMap acw), HA.blk b_1' (.cells [w, zI re_1, st s, w_1'].toArray 101 (0, 0)), HA.blk b (.cells [w, zI re_1].toArray 32 (0, 0))]) [0, 4, 1, 2, 3] rfl rfl ?_
  refine QX.rows (by omega) ?_
  refine kg (hK_14' [(1, st s), (2, zP b), (5, zP b_1'), (6, zI i_1')] _ ?_)
  refine a4 ?_
  refine wm ?_
  obtain ⟨o_14', h⟩ := h
  refine wv (OV.add rfl rfl o_14') ?_
  refine wa ?_
  refine WL.nil ?_
  exact kh (hK_11' (i_1' + 1, l_1'.set ((i_1').toNat) w_4', c_1' ++ [w_4']) h.1 h.2) [1, 2, 3, 0]
 ·replace h := j5 h hb
  refine s5 ?_
  refine kg (hK_3' [(5, zP b_1')] _ ?_)
  refine a6 (fun _ hK_15' => ?_)
  refine a4 ?_
  refine wm ?_
  refine wa ?_
  refine WL.nil ?_
  refine kg (hK_15' [(4, zP b_1')] _ ?_)
  refine c9 ?_
  exact hE.ret [1, 0, 3] rfl rfl (.inl ⟨_, _, _, _, h, rfl⟩) (f9.of1 rfl (RV.tmp rfl))
def afj (tc : TabC) (sg : List TE) (nl : List ND) (i : Int) (k : Int) (K : Value → (List TE) → Prop) : Prop :=
 (0 ≤ i ∧ i < (tc.rvs.length : Int)) ∧
 (0 ≤ k ∧ k < (tc.n : Int) + 1) ∧
 (∀ e ∈ sg, e.2.2.2 ≠ []) ∧
 (if ((akm sg ((i).toNat) ((k).toNat)).isSome) = true then
  (0 ≤ i ∧ i < (tc.rvs.length : Int)) ∧
  (0 ≤ k ∧ k < (tc.n : Int) + 1) ∧
  K (air sg (i).toNat (k).toNat) sg
 else
  (I64 ((tc.s.length : Int) + 1)) ∧
  (0 ≤ ((tc.s.length : Int) + 1) ∧ (1 : Int) * ((tc.s.length : Int) + 1) ≤ 281474976710656 ∧ ((tc.s.length : Int) + 1) ≤ 9223372036854775807) ∧
  ∀ (w : Value),
  (0 ≤ i ∧ i < (nl.length : Int)) ∧
  ∃ (J0_9' : (List Bool) → (List TE) → Prop),
   (∀ (l_15' : List Bool) (c_10' : List TE), J0_9' l_15' c_10' →
    (0 ≤ i ∧ i < (tc.rvs.length : Int)) ∧
    (0 ≤ k ∧ k < (tc.n : Int) + 1) ∧
    K w (((i).toNat, (k).toNat, w, l_15') :: c_10')) ∧
   (if (decide ((nl.getD (i).toNat default).1 = 0)) = true then
    (0 ≤ k ∧ k < ((o5 ((tc.s.length : Int) + 1)).length : Int)) ∧
    J0_9' ((o5 ((tc.s.length : Int) + 1)).set ((k).toNat) true) sg
   else
    (if (decide ((nl.getD (i).toNat default).1 = 1)) = true then
     ((decide (k < (tc.s.length : Int))) = true → (0 ≤ k ∧ k < tc.s.length) ∧ (I64 (((tc.s.getD k.toNat 0).toNat : Int))) ∧ (0 ≤ ((tc.s.getD k.toNat 0).toNat : Int) ∧ ((tc.s.getD k.toNat 0).toNat : Int) < 256)) ∧
     (if ((decide (k < (tc.s.length : Int))) && ((nl.getD (i).toNat default).2.1 ((((tc.s.getD k.toNat 0).toNat : Int)).toNat))) = true then
      (I64 (k + 1)) ∧
      (0 ≤ (k + 1) ∧ (k + 1) < ((o5 ((tc.s.length : Int) + 1)).length : Int)) ∧
      J0_9' ((o5 ((tc.s.length : Int) + 1)).set (((k + 1)).toNat) true) sg
     else
      J0_9' (o5 ((tc.s.length : Int) + 1)) sg)
    else
     (if (decide ((nl.getD (i).toNat default).1 = 2)) = true then
      (aof nl tc sg ((nl.getD (i).toNat default).2.2.1) k) ∧
      (∀ (u_15' : Value) (d_15' : List TE) (e_15' : List Bool), ait nl tc sg ((nl.getD (i).toNat default).2.2.1) k u_15' d_15' e_15' →
       ∃ (Inv_3' : Int → (List TE) → (List Bool) → Prop) (mu_3' : Int → (List TE) → (List Bool) → Nat),
        Inv_3' k d_15' (o5 ((tc.s.length : Int) + 1)) ∧ ∀ (j_7' : Int) (c_14' : List TE) (l_19' : List Bool), Inv_3' j_7' c_14' l_19' →
         (if (decide (j_7' ≤ (tc.s.length : Int))) = true then
          ∃ (J0_12' : (List Bool) → (List TE) → Prop),
           (∀ (l_20' : List Bool) (c_15' : List TE), J0_12' l_20' c_15' →
            (I64 (j_7' + 1)) ∧
            Inv_3' (j_7' + 1) c_15' l_20' ∧ mu_3' (j_7' + 1) c_15' l_20' < mu_3' j_7' c_14' l_19') ∧
           (InT c_14' u_15' e_15') ∧
           (0 ≤ j_7' ∧ j_7' < (e_15'.length : Int)) ∧
           (InT c_14' u_15' e_15') ∧
           (if (e_15'.getD (j_7').toNat default) = true then
            (aof nl tc c_14' ((nl.getD (i).toNat default).2.2.2.1) j_7') ∧
            (∀ (u_21' : Value) (d_21' : List TE) (e_21' : List Bool), ait nl tc c_14' ((nl.getD (i).toNat default).2.2.2.1) j_7' u_21' d_21' e_21' →
             (InT d_21' u_21' e_21') ∧
             (l_19'.length = e_21'.length ∧ l_19'.length ≤ 281474976710656) ∧
             J0_12' (orL l_19' e_21') d_21')
           else
            J0_12' l_19' c_14')
         else
          J0_9' l_19' c_14'))
     else
      (if (decide ((nl.getD (i).toNat default).1 = 4)) = true then
       (0 ≤ k ∧ k < ((o5 ((tc.s.length : Int) + 1)).length : Int)) ∧
       ∃ (Inv_4' : Int → (List Bool) → (List TE) → Prop) (mu_4' : Int → (List Bool) → (List TE) → Nat),
        Inv_4' k ((o5 ((tc.s.length : Int) + 1)).set ((k).toNat) true) sg ∧ ∀ (j_9' : Int) (l_24' : List Bool) (c_19' : List TE), Inv_4' j_9' l_24' c_19' →
         (if (decide (j_9' ≤ (tc.s.length : Int))) = true then
          ∃ (J0_15' : (List Bool) → (List TE) → Prop),
           (∀ (l_25' : List Bool) (c_20' : List TE), J0_15' l_25' c_20' →
            (I64 (j_9' + 1)) ∧
            Inv_4' (j_9' + 1) l_25' c_20' ∧ mu_4' (j_9' + 1) l_25' c_20' < mu_4' j_9' l_24' c_19') ∧
           (0 ≤ j_9' ∧ j_9' < (l_24'.length : Int)) ∧
           (if (l_24'.getD (j_9').toNat default) = true then
            (aof nl tc c_19' ((nl.getD (i).toNat default).2.2.1) j_9') ∧
            (∀ (u_27' : Value) (d_27' : List TE) (e_27' : List Bool), ait nl tc c_19' ((nl.getD (i).toNat default).2.2.1) j_9' u_27' d_27' e_27' →
             (InT d_27' u_27' e_27') ∧
             (l_24'.length = e_27'.length ∧ l_24'.length ≤ 281474976710656) ∧
             J0_15' (orL l_24' e_27') d_27')
           else
            J0_15' l_24' c_19')
         else
          J0_9' l_24' c_19')
      else
       (aof nl tc sg ((nl.getD (i).toNat default).2.2.1) k) ∧
       (∀ (u_28' : Value) (d_28' : List TE) (e_28' : List Bool), ait nl tc sg ((nl.getD (i).toNat default).2.2.1) k u_28' d_28' e_28' →
        (aof nl tc d_28' ((nl.getD (i).toNat default).2.2.2.1) k) ∧
        (∀ (u_29' : Value) (d_29' : List TE) (e_29' : List Bool), ait nl tc d_28' ((nl.getD (i).toNat default).2.2.2.1) k u_29' d_29' e_29' →
         ∃ (Inv_5' : Int → (List Bool) → Prop) (mu_5' : Int → (List Bool) → Nat),
          Inv_5' k (o5 ((tc.s.length : Int) + 1)) ∧ ∀ (j_11' : Int) (l_29' : List Bool), Inv_5' j_11' l_29' →
           (if (decide (j_11' ≤ (tc.s.length : Int))) = true then
            ∃ (J0_18' : (List Bool) → Prop),
             (∀ (l_30' : List Bool), J0_18' l_30' →
              (I64 (j_11' + 1)) ∧
              Inv_5' (j_11' + 1) l_30' ∧ mu_5' (j_11' + 1) l_30' < mu_5' j_11' l_29') ∧
             (if (decide ((nl.getD (i).toNat default).1 = 3)) = true then
              (InT d_29' u_28' e_28') ∧
              (0 ≤ j_11' ∧ j_11' < (e_28'.length : Int)) ∧
              (InT d_29' u_28' e_28') ∧
              ((e_28'.getD (j_11').toNat default) = false → (InT d_29' u_29' e_29') ∧ (0 ≤ j_11' ∧ j_11' < (e_29'.length : Int)) ∧ (InT d_29' u_29' e_29')) ∧
              (0 ≤ j_11' ∧ j_11' < (l_29'.length : Int)) ∧
              J0_18' (l_29'.set ((j_11').toNat) ((e_28'.getD (j_11').toNat default) || (e_29'.getD (j_11').toNat default)))
             else
              (if (decide ((nl.getD (i).toNat default).1 = 5)) = true then
               (InT d_29' u_28' e_28') ∧
               (0 ≤ j_11' ∧ j_11' < (e_28'.length : Int)) ∧
               (InT d_29' u_28' e_28') ∧
               ((e_28'.getD (j_11').toNat default) = true → (InT d_29' u_29' e_29') ∧ (0 ≤ j_11' ∧ j_11' < (e_29'.length : Int)) ∧ (InT d_29' u_29' e_29')) ∧
               (0 ≤ j_11' ∧ j_11' < (l_29'.length : Int)) ∧
               J0_18' (l_29'.set ((j_11').toNat) ((e_28'.getD (j_11').toNat default) && (e_29'.getD (j_11').toNat default)))
              else
               (InT d_29' u_28' e_28') ∧
               (0 ≤ j_11' ∧ j_11' < (e_28'.length : Int)) ∧
               (InT d_29' u_28' e_28') ∧
               ((e_28'.getD (j_11').toNat default) = true → (InT d_29' u_29' e_29') ∧ (0 ≤ j_11' ∧ j_11' < (e_29'.length : Int)) ∧ (InT d_29' u_29' e_29')) ∧
               (0 ≤ j_11' ∧ j_11' < (l_29'.length : Int)) ∧
               J0_18' (l_29'.set ((j_11').toNat) ((e_28'.getD (j_11').toNat default) && (!(e_29'.getD (j_11').toNat default))))))
           else
            J0_9' l_29' d_29'))))))))
set_option maxHeartbeats 2000000 in
theorem ajq  (tc : TabC) (sg : List TE) (nl : List ND) (i : Int) (k : Int) (Ri1 : List (Nat × Obj)) (hRi1 : aeb tc.w Ri1 nl.length (nl.flatMap ndC)) (K : Value → (List TE) → Prop) (h : afj tc sg nl i k K) :
  d5 Tryd.prog 25 [zP tc.b, zI i, zI k] (Ri1 ++ []) [tab tc sg] (fun o => (∃ (v : Value) (D : List TE), K v D ∧ o = .ret (v) [tab tc D]) ∨ (False)) := by
 unfold afj at h
 refine c8 (n := 214) (L0 := [(0, zP tc.b), (1, zI i), (2, zI k)]) Tryd.func25 rfl rfl rfl rfl (fun w0 M Q hE => ?_)
 have hi1 : LIn ⟨214, [], w0, M, (Ri1 ++ [])⟩ tc.w nl.length (nl.flatMap ndC) := LIn.mk hRi1 (fun p hp => by simp [hp])
 refine a6 (fun _ hK => ?_)
 refine a4 ?_
 refine wa ?_
 refine WL.nilRow 4 1 q7 ?_
 refine WL.nil ?_
 refine kg (hK [(0, zP tc.b), (1, zI i), (2, zI k)] _ ?_)
 refine a6 (fun _ hK_1' => ?_)
 refine a6 (fun _ hK_2' => ?_)
 refine a4 ?_
 refine wm ?_
 refine wv (OV.nilCheck rfl) ?_
 refine wv (OV.fieldAddr0 rfl abi) ?_
 refine wv (OV.load rfl (At.tab 1 rfl) rfl afw) ?_
 refine wm ?_
 obtain ⟨o, h⟩ := h
 refine wv (OV.tabE 1 rfl rfl rfl agn o) ?_
 refine wv (OV.tabER 1 rfl rfl (by omega) agy) ?_
 refine wm ?_
 obtain ⟨o_1', h⟩ := h
 refine wv (OV.tabR (q := (i).toNat) 1 rfl (by omega) rfl rfl ahe o_1') ?_
 refine wv (OV.tabRE 1 rfl (by omega) rfl (by omega) al7) ?_
 obtain ⟨o_2', h⟩ := h
 refine wv (OV.tabHas 1 rfl rfl rfl Tryd.underlying70 o_2') ?_
 refine WL.nil ?_
 refine kg (hK_2' [(0, zP tc.b), (1, zI i), (2, zI k), (25, zB ((akm sg ((i).toNat) ((k).toNat)).isSome))] _ ?_)
 refine b6 (b := (akm sg ((i).toNat) ((k).toNat)).isSome) rfl (fun hb => ?_) (fun hb => ?_)
 ·replace h := j4 h hb
  refine a6 (fun _ hK_3' => ?_)
  refine a4 ?_
  refine wm ?_
  refine wv (OV.nilCheck rfl) ?_
  refine wv (OV.fieldAddr0 rfl abi) ?_
  refine wv (OV.load rfl (At.tab 1 rfl) rfl afw) ?_
  refine wm ?_
  obtain ⟨o_3', h⟩ := h
  refine wv (OV.tabE 1 rfl rfl rfl agn o_3') ?_
  refine wv (OV.tabER 1 rfl rfl (by omega) agy) ?_
  refine wm ?_
  obtain ⟨o_4', h⟩ := h
  refine wv (OV.tabR (q := (i).toNat) 1 rfl (by omega) rfl rfl ahe o_4') ?_
  refine wv (OV.tabRE 1 rfl (by omega) rfl (by omega) al7) ?_
  refine wa ?_
  refine WL.nil ?_
  refine kg (hK_3' [(6, air sg (i).toNat (k).toNat)] _ ?_)
  refine c9 ?_
  exact hE.ret [1] rfl rfl (.inl ⟨_, _, h, rfl⟩) (f9.of1 rfl (RV.tmp rfl))
 ·replace h := j5 h hb
  refine b7 ?_
  refine kg (hK_1' [(0, zP tc.b), (1, zI i), (2, zI k)] _ ?_)
  refine a6 (fun _ hK_4' => ?_)
  refine a4 ?_
  refine wm ?_
  refine wv (OV.nilCheck rfl) ?_
  refine wv (OV.fieldAddr0 rfl aa0) ?_
  refine wv (OV.load rfl (At.tab 1 rfl) rfl w6) ?_
  refine wv (OV.len rfl j7) ?_
  obtain ⟨o_5', h⟩ := h
  refine wv (OV.add rfl rfl o_5') ?_
  obtain ⟨o_6', h⟩ := h
  refine WL.makeZ rfl rfl w3 aw0 o_6' rfl rfl (fun w => ?_)
  replace h := h w
  refine wa ?_
  refine WL.nil ?_
  refine kg (hK_4' [(0, zP tc.b), (1, zI i), (2, zI k), (7, w)] _ ?_)
  refine a6 (fun _ hK_5' => ?_)
  refine a4 ?_
  refine wm ?_
  refine wv (OV.nilCheck rfl) ?_
  refine wv (OV.fieldAddr0 rfl amg) ?_
  refine wv (OV.fieldAddr0 rfl x9) ?_
  refine wv (OV.load rfl (At.tab 2 rfl) rfl v8) ?_
  refine wm ?_
  obtain ⟨o_7', h⟩ := h
  refine wv (OV.indexIn hi1 rfl rfl p9 o_7') ?_
  refine wv (OV.loadInE (f := ndC) hi1 rfl s6 (by decide) (by omega) aka) ?_
  refine WL.make (MV.alloc ace) rfl rfl rfl (fun b => ?_)
  refine WL.storeW (vs := ndC (nl.getD (i).toNat default)) 0 rfl rfl rfl rfl (s6 _) anq ((s6 _).trans (s6 _).symm) (afr (nl.getD (i).toNat default)) rfl ?_
  refine WL.nil ?_
  refine kg (hK_5' [(0, zP tc.b), (1, zI i), (2, zI k), (7, w), (8, zP b)] _ ?_)
  obtain ⟨J0_9', hJ_9', h⟩ := h
  refine n5 (X := (List Bool) × (List TE)) (fun σ => J0_9' σ.1 σ.2) (fun σ => [(0, zP tc.b), (1, zI i), (2, zI k), (7, w)]) (fun σ => [HA.row w 4 1 σ.1.length (σ.1.flatMap q7), tab tc σ.2]) ?_ (fun K0_97' hK_97' => ?_)
  ·rintro ⟨l_15', c_10'⟩ hj
   replace h := hJ_9' l_15' c_10' hj
   show WC _ _ _ _ [(0, zP tc.b), (1, zI i), (2, zI k), (7, w)] [HA.row w 4 1 l_15'.length (l_15'.flatMap q7), tab tc c_10']
   refine a6 (fun _ hK_98' => ?_)
   refine a4 ?_
   refine wm ?_
   refine wv (OV.nilCheck rfl) ?_
   refine wv (OV.fieldAddr0 rfl abi) ?_
   refine wv (OV.load rfl (At.tab 1 rfl) rfl afw) ?_
   refine wm ?_
   obtain ⟨o_232', h⟩ := h
   refine wv (OV.tabE 1 rfl rfl rfl agn o_232') ?_
   refine wv (OV.tabER 1 rfl rfl (by omega) agy) ?_
   refine wm ?_
   refine wm ?_
   obtain ⟨o_233', h⟩ := h
   refine wv (OV.tabR (q := (i).toNat) 1 rfl (by omega) rfl rfl ahe o_233') ?_
   refine WL.pick (H' := [HA.row w 4 1 l_15'.length (l_15'.flatMap q7), tab tc c_10']) [0, 1] rfl rfl ?_
   refine WL.tabStore (i := (i).toNat) (k := (k).toNat) rfl rfl (by omega) (by omega) au2 rfl ?_
   refine WL.nil ?_
   refine kg (hK_98' [(7, w)] _ ?_)
   refine a6 (fun _ hK_99' => ?_)
   refine a4 ?_
   refine wm ?_
   refine wa ?_
   refine WL.nil ?_
   refine kg (hK_99' [(6, w)] _ ?_)
   refine c9 ?_
   exact hE.ret [0] rfl rfl (.inl ⟨_, _, h, rfl⟩) (f9.of1 rfl (RV.tmp rfl))
  ·skip
   refine a6 (fun _ hK_100' => ?_)
   refine a4 ?_
   refine wv (OV.fieldAddr0 rfl aaq) ?_
   refine wv (OV.load rfl (At.own 0 rfl) (alz _) b5) ?_
   refine WL.nil ?_
   refine kg (hK_100' [(0, zP tc.b), (1, zI i), (2, zI k), (7, w), (8, zP b), (52, zI ((nl.getD (i).toNat default).1))] _ ?_)
   refine d6 ?_
   refine a6 (fun _ hK_101' => ?_)
   refine a4 ?_
   refine wv (OV.eql rfl rfl) ?_
   refine wa ?_
   refine WL.nil ?_
   refine kg (hK_101' [(0, zP tc.b), (1, zI i), (2, zI k), (7, w), (8, zP b), (52, zI ((nl.getD (i).toNat default).1)), (119, zB (decide ((nl.getD (i).toNat default).1 = 0)))] _ ?_)
   refine b6 (b := decide ((nl.getD (i).toNat default).1 = 0)) rfl (fun hb => ?_) (fun hb => ?_)
   ·replace h := j4 h hb
    refine a4 ?_
    refine wm ?_
    refine wm ?_
    obtain ⟨o_234', h⟩ := h
    refine wv (OV.indexRow 1 rfl rfl rfl w3 o_234') ?_
    refine WL.storeE (f := q7) (z := true) 1 rfl rfl rfl aam (by decide) (by omega) rfl aau rfl rfl ?_
    refine WL.nil ?_
    exact kh (hK_97' ((o5 ((tc.s.length : Int) + 1)).set ((k).toNat) true, sg) h) [1, 3]
   ·replace h := j5 h hb
    refine a6 (fun _ hK_102' => ?_)
    refine a4 ?_
    refine wv (OV.eql rfl rfl) ?_
    refine wa ?_
    refine WL.nil ?_
    refine kg (hK_102' [(0, zP tc.b), (1, zI i), (2, zI k), (7, w), (8, zP b), (52, zI ((nl.getD (i).toNat default).1)), (124, zB (decide ((nl.getD (i).toNat default).1 = 1)))] _ ?_)
    refine b6 (b := decide ((nl.getD (i).toNat default).1 = 1)) rfl (fun hb => ?_) (fun hb => ?_)
    ·replace h := j4 h hb
     refine a6 (fun _ hK_103' => ?_)
     refine a4 ?_
     refine wm ?_
     refine wm ?_
     refine wv (OV.nilCheck rfl) ?_
     refine wv (OV.fieldAddr0 rfl aa0) ?_
     refine wv (OV.load rfl (At.tab 3 rfl) rfl w6) ?_
     refine wv (OV.len rfl j7) ?_
     refine wv (OV.lss rfl rfl) ?_
     refine wm ?_
     obtain ⟨o_238', h⟩ := h
     refine WL.cut 11 [(0, zP tc.b), (1, zI i), (2, zI k), (7, w), (144, zB ((decide (k < (tc.s.length : Int))) && ((nl.getD (i).toNat default).2.1 ((((tc.s.getD k.toNat 0).toNat : Int)).toNat))))] ?_ (fun K0_104' hK_104' => ?_)
     rotate_left
     ·refine WL.split (decide (k < (tc.s.length : Int))) (fun hb => ?_) (fun hb => ?_)
      ·obtain ⟨o_235', o_236', o_237'⟩ := o_238' hb
       refine WL.set 133 rfl (congrArg zB hb) ?_
       refine wm ?_
       refine wv (OV.nilCheck rfl) ?_
       refine wv (OV.fieldAddr0 rfl aa0) ?_
       refine wv (OV.load rfl (At.tab 3 rfl) rfl w6) ?_
       refine wm ?_
       refine wv (OV.index rfl rfl j7 o_235') ?_
       refine wv (OV.conv64 rfl ack Tryd.underlying3 o_236') ?_
       refine wv (OV.fieldAddr0 rfl ah0) ?_
       refine wv (OV.indexAddr rfl rfl ad1 o_237' rfl) ?_
       refine wv (OV.load rfl (At.own 0 rfl) (a01 _ (by omega)) aad) ?_
       refine wv (OV.pickT rfl rfl) ?_
       refine WL.set 144 rfl (bT (v := (nl.getD (i).toNat default).2.1 ((((tc.s.getD k.toNat 0).toNat : Int)).toNat)) hb) ?_
       exact WL.end_ (kg hK_104')
      ·refine WL.set 133 rfl (congrArg zB hb) ?_
       refine wk ?_
       refine wk ?_
       refine wk ?_
       refine wk ?_
       refine wk ?_
       refine wk ?_
       refine wk ?_
       refine wk ?_
       refine wk ?_
       refine wk ?_
       refine wv (OV.pickF rfl rfl) ?_
       refine WL.set 144 rfl (bF (v := (nl.getD (i).toNat default).2.1 ((((tc.s.getD k.toNat 0).toNat : Int)).toNat)) hb) ?_
       exact WL.end_ (kg hK_104')
     refine WL.nil ?_
     refine kg (hK_103' [(0, zP tc.b), (1, zI i), (2, zI k), (7, w), (144, zB ((decide (k < (tc.s.length : Int))) && ((nl.getD (i).toNat default).2.1 ((((tc.s.getD k.toNat 0).toNat : Int)).toNat))))] _ ?_)
     refine b6 (b := (decide (k < (tc.s.length : Int))) && ((nl.getD (i).toNat default).2.1 ((((tc.s.getD k.toNat 0).toNat : Int)).toNat))) rfl (fun hb => ?_) (fun hb => ?_)
     ·replace h := j4 h hb
      refine a4 ?_
      refine wm ?_
      refine wm ?_
      obtain ⟨o_239', h⟩ := h
      refine wv (OV.add rfl rfl o_239') ?_
      obtain ⟨o_240', h⟩ := h
      refine wv (OV.indexRow 1 rfl rfl rfl w3 o_240') ?_
      refine WL.storeE (f := q7) (z := true) 1 rfl rfl rfl aam (by decide) (by omega) rfl aau rfl rfl ?_
      refine WL.nil ?_
      exact kh (hK_97' ((o5 ((tc.s.length : Int) + 1)).set (((k + 1)).toNat) true, sg) h) [1, 3]
     ·replace h := j5 h hb
      refine b7 ?_
      exact kh (hK_97' (o5 ((tc.s.length : Int) + 1), sg) h) [1, 3]
    ·replace h := j5 h hb
     refine a6 (fun _ hK_105' => ?_)
     refine a4 ?_
     refine wv (OV.eql rfl rfl) ?_
     refine wa ?_
     refine WL.nil ?_
     refine kg (hK_105' [(0, zP tc.b), (1, zI i), (2, zI k), (7, w), (8, zP b), (52, zI ((nl.getD (i).toNat default).1)), (149, zB (decide ((nl.getD (i).toNat default).1 = 2)))] _ ?_)
     refine b6 (b := decide ((nl.getD (i).toNat default).1 = 2)) rfl (fun hb => ?_) (fun hb => ?_)
     ·replace h := j4 h hb
      refine a6 (fun _ hK_106' => ?_)
      refine a4 ?_
      refine wm ?_
      refine wv (OV.fieldAddr0 rfl x5) ?_
      refine wv (OV.load rfl (At.own 0 rfl) (adu _) b5) ?_
      refine wm ?_
      obtain ⟨o_241', h⟩ := h
      refine WL.pick (H' := [tab tc sg, HA.blk b (.cells (ndC (nl.getD (i).toNat default)).toArray 63 (0, 0)), HA.row w 4 1 (o5 ((tc.s.length : Int) + 1)).length ((o5 ((tc.s.length : Int) + 1)).flatMap q7), HA.row (Value.slice none 0 0) 4 1 ([] : List Bool).length (([] : List Bool).flatMap q7)]) [3, 0, 1, 2] rfl rfl ?_
      refine WL.callS1 adz rfl (o_241') rfl (LOk.inn hi1) trivial rfl rfl (fun r H' hS => ?_) (fun c H' hS => ?_)
      ·obtain ⟨u_15', d_15', e_15', hc, ho⟩ := hS
       obtain ⟨hr1, hr2⟩ := Out.ret.inj ho
       subst hr2
       replace hr1 := hr1.symm
       subst hr1
       replace h := h u_15' d_15' e_15' hc
       refine wa ?_
       refine WL.nil ?_
       refine kg (hK_106' [(0, zP tc.b), (1, zI i), (2, zI k), (7, w), (8, zP b), (9, u_15')] _ ?_)
       refine a6 (fun _ hK_107' => ?_)
       refine a4 ?_
       refine wm ?_
       refine wa ?_
       refine WL.nil ?_
       refine kg (hK_107' [(0, zP tc.b), (1, zI i), (2, zI k), (7, w), (8, zP b), (9, u_15'), (10, zI k)] _ ?_)
       refine d6 ?_
       refine WC.pick (H' := [tab tc d_15', HA.blk b (.cells (ndC (nl.getD (i).toNat default)).toArray 63 (0, 0)), HA.row w 4 1 (o5 ((tc.s.length : Int) + 1)).length ((o5 ((tc.s.length : Int) + 1)).flatMap q7)]) [0, 1, 2] rfl rfl ?_
       obtain ⟨Inv_3', mu_3', h0_3', hr_3'⟩ := h
       refine w9 (S := Int × (List TE) × (List Bool)) (fun σ => Inv_3' σ.1 σ.2.1 σ.2.2) (fun σ => mu_3' σ.1 σ.2.1 σ.2.2) (fun σ => [(0, zP tc.b), (1, zI i), (2, zI k), (7, w), (8, zP b), (9, u_15'), (10, zI σ.1)]) (fun σ => [tab tc σ.2.1, HA.blk b (.cells (ndC (nl.getD (i).toNat default)).toArray 63 (0, 0)), HA.row w 4 1 σ.2.2.length (σ.2.2.flatMap q7)]) (k, d_15', o5 ((tc.s.length : Int) + 1)) h0_3' ⟨rfl, rfl, rfl, rfl, rfl, rfl, rfl, trivial⟩ rfl ?_
       rintro ⟨j_7', c_14', l_19'⟩ hi K0_118' hK_118'
       have h := hr_3' j_7' c_14' l_19' hi
       show WC _ _ _ _ [(0, zP tc.b), (1, zI i), (2, zI k), (7, w), (8, zP b), (9, u_15'), (10, zI j_7')] [tab tc c_14', HA.blk b (.cells (ndC (nl.getD (i).toNat default)).toArray 63 (0, 0)), HA.row w 4 1 l_19'.length (l_19'.flatMap q7)]
       refine a6 (fun _ hK_119' => ?_)
       refine a6 (fun _ hK_120' => ?_)
       refine a4 ?_
       refine wm ?_
       refine wm ?_
       refine wv (OV.nilCheck rfl) ?_
       refine wv (OV.fieldAddr0 rfl aa0) ?_
       refine wv (OV.load rfl (At.tab 0 rfl) rfl w6) ?_
       refine wv (OV.len rfl j7) ?_
       refine wv (OV.leq rfl rfl) ?_
       refine WL.nil ?_
       refine kg (hK_120' [(0, zP tc.b), (1, zI i), (2, zI k), (7, w), (8, zP b), (9, u_15'), (10, zI j_7'), (163, zB (decide (j_7' ≤ (tc.s.length : Int))))] _ ?_)
       refine b6 (b := decide (j_7' ≤ (tc.s.length : Int))) rfl (fun hb => ?_) (fun hb => ?_)
       ·replace h := j4 h hb
        refine b7 ?_
        refine kg (hK_119' [(0, zP tc.b), (1, zI i), (2, zI k), (7, w), (8, zP b), (9, u_15'), (10, zI j_7')] _ ?_)
        obtain ⟨J0_12', hJ_12', h⟩ := h
        refine n5 (X := (List Bool) × (List TE)) (fun σ => J0_12' σ.1 σ.2) (fun σ => [(0, zP tc.b), (1, zI i), (2, zI k), (7, w), (8, zP b), (9, u_15'), (10, zI j_7')]) (fun σ => [HA.row w 4 1 σ.1.length (σ.1.flatMap q7), tab tc σ.2, HA.blk b (.cells (ndC (nl.getD (i).toNat default)).toArray 63 (0, 0))]) ?_ (fun K0_122' hK_122' => ?_)
        ·rintro ⟨l_20', c_15'⟩ hj
         replace h := hJ_12' l_20' c_15' hj
         show WC _ _ _ _ [(0, zP tc.b), (1, zI i), (2, zI k), (7, w), (8, zP b), (9, u_15'), (10, zI j_7')] [HA.row w 4 1 l_20'.length (l_20'.flatMap q7), tab tc c_15', HA.blk b (.cells (ndC (nl.getD (i).toNat default)).toArray 63 (0, 0))]
         refine a4 ?_
         refine wm ?_
         obtain ⟨o_274', h⟩ := h
         refine wv (OV.add rfl rfl o_274') ?_
         refine wa ?_
         refine WL.nil ?_
         exact kh (hK_118' (j_7' + 1, c_15', l_20') h.1 h.2) [1, 2, 0]
        ·skip
         refine d6 ?_
         refine a6 (fun _ hK_123' => ?_)
         refine a4 ?_
         refine wm ?_
         refine wm ?_
         obtain ⟨o_275', h⟩ := h
         obtain ⟨o_276', h⟩ := h
         refine wv (OV.tabO (l := e_15') 0 rfl o_275' rfl rfl w3 o_276') ?_
         obtain ⟨o_277', h⟩ := h
         refine wv (OV.tabOB (l := e_15') 0 rfl o_277' rfl (by omega) aad) ?_
         refine WL.nil ?_
         refine kg (hK_123' [(0, zP tc.b), (1, zI i), (2, zI k), (7, w), (8, zP b), (9, u_15'), (10, zI j_7'), (169, zB (e_15'.getD (j_7').toNat default))] _ ?_)
         refine b6 (b := (e_15'.getD (j_7').toNat default)) rfl (fun hb => ?_) (fun hb => ?_)
         ·replace h := j4 h hb
          refine a4 ?_
          refine wm ?_
          refine wm ?_
          refine wv (OV.fieldAddr0 rfl adc) ?_
          refine wv (OV.load rfl (At.own 1 rfl) (aly _) b5) ?_
          refine wm ?_
          obtain ⟨o_278', h⟩ := h
          refine WL.callS1 adz rfl (o_278') rfl (LOk.inn hi1) trivial rfl rfl (fun r H' hS => ?_) (fun c H' hS => ?_)
          ·obtain ⟨u_21', d_21', e_21', hc, ho⟩ := hS
           obtain ⟨hr1, hr2⟩ := Out.ret.inj ho
           subst hr2
           replace hr1 := hr1.symm
           subst hr1
           replace h := h u_21' d_21' e_21' hc
           obtain ⟨o_279', h⟩ := h
           obtain ⟨o_280', h⟩ := h
           refine WL.pick (H' := [HA.row w 4 1 l_19'.length (l_19'.flatMap q7), tab tc d_21', HA.blk b (.cells (ndC (nl.getD (i).toNat default)).toArray 63 (0, 0))]) [2, 0, 1] rfl rfl ?_
           refine WL.call1 apc rfl (al6 w l_19' u_21' e_21' o_280') rfl (LOk.tab 0 rfl o_279') trivial rfl rfl ?_
           refine WL.nil ?_
           exact kh (hK_122' (orL l_19' e_21', d_21') h) [0, 1, 2]
          ·obtain ⟨u_21', d_21', e_21', hc, ho⟩ := hS
           cases ho
         ·replace h := j5 h hb
          refine b7 ?_
          exact kh (hK_122' (l_19', c_14') h) [2, 0, 1]
       ·replace h := j5 h hb
        refine s5 ?_
        exact kh (hK_97' (l_19', c_14') h) [2, 0]
      ·obtain ⟨u_15', d_15', e_15', hc, ho⟩ := hS
       cases ho
     ·replace h := j5 h hb
      refine a6 (fun _ hK_124' => ?_)
      refine a4 ?_
      refine wv (OV.eql rfl rfl) ?_
      refine wa ?_
      refine WL.nil ?_
      refine kg (hK_124' [(0, zP tc.b), (1, zI i), (2, zI k), (7, w), (8, zP b), (177, zB (decide ((nl.getD (i).toNat default).1 = 4)))] _ ?_)
      refine b6 (b := decide ((nl.getD (i).toNat default).1 = 4)) rfl (fun hb => ?_) (fun hb => ?_)
      ·replace h := j4 h hb
       refine a6 (fun _ hK_125' => ?_)
       refine a4 ?_
       refine wm ?_
       refine wm ?_
       obtain ⟨o_281', h⟩ := h
       refine wv (OV.indexRow 1 rfl rfl rfl w3 o_281') ?_
       refine WL.storeE (f := q7) (z := true) 1 rfl rfl rfl aam (by decide) (by omega) rfl aau rfl rfl ?_
       refine WL.nil ?_
       refine kg (hK_125' [(0, zP tc.b), (1, zI i), (2, zI k), (7, w), (8, zP b)] _ ?_)
       refine a6 (fun _ hK_126' => ?_)
       refine a4 ?_
       refine wm ?_
       refine wa ?_
       refine WL.nil ?_
       refine kg (hK_126' [(0, zP tc.b), (1, zI i), (2, zI k), (7, w), (8, zP b), (11, zI k)] _ ?_)
       refine d6 ?_
       refine WC.pick (H' := [HA.blk b (.cells (ndC (nl.getD (i).toNat default)).toArray 63 (0, 0)), HA.row w 4 1 ((o5 ((tc.s.length : Int) + 1)).set ((k).toNat) true).length (((o5 ((tc.s.length : Int) + 1)).set ((k).toNat) true).flatMap q7), tab tc sg]) [0, 1, 3] rfl rfl ?_
       obtain ⟨Inv_4', mu_4', h0_4', hr_4'⟩ := h
       refine w9 (S := Int × (List Bool) × (List TE)) (fun σ => Inv_4' σ.1 σ.2.1 σ.2.2) (fun σ => mu_4' σ.1 σ.2.1 σ.2.2) (fun σ => [(0, zP tc.b), (1, zI i), (2, zI k), (7, w), (8, zP b), (11, zI σ.1)]) (fun σ => [HA.blk b (.cells (ndC (nl.getD (i).toNat default)).toArray 63 (0, 0)), HA.row w 4 1 σ.2.1.length (σ.2.1.flatMap q7), tab tc σ.2.2]) (k, (o5 ((tc.s.length : Int) + 1)).set ((k).toNat) true, sg) h0_4' ⟨rfl, rfl, rfl, rfl, rfl, rfl, trivial⟩ rfl ?_
       rintro ⟨j_9', l_24', c_19'⟩ hi K0_137' hK_137'
       have h := hr_4' j_9' l_24' c_19' hi
       show WC _ _ _ _ [(0, zP tc.b), (1, zI i), (2, zI k), (7, w), (8, zP b), (11, zI j_9')] [HA.blk b (.cells (ndC (nl.getD (i).toNat default)).toArray 63 (0, 0)), HA.row w 4 1 l_24'.length (l_24'.flatMap q7), tab tc c_19']
       refine a6 (fun _ hK_138' => ?_)
       refine a6 (fun _ hK_139' => ?_)
       refine a4 ?_
       refine wm ?_
       refine wm ?_
       refine wv (OV.nilCheck rfl) ?_
       refine wv (OV.fieldAddr0 rfl aa0) ?_
       refine wv (OV.load rfl (At.tab 2 rfl) rfl w6) ?_
       refine wv (OV.len rfl j7) ?_
       refine wv (OV.leq rfl rfl) ?_
       refine WL.nil ?_
       refine kg (hK_139' [(0, zP tc.b), (1, zI i), (2, zI k), (7, w), (8, zP b), (11, zI j_9'), (189, zB (decide (j_9' ≤ (tc.s.length : Int))))] _ ?_)
       refine b6 (b := decide (j_9' ≤ (tc.s.length : Int))) rfl (fun hb => ?_) (fun hb => ?_)
       ·replace h := j4 h hb
        refine b7 ?_
        refine kg (hK_138' [(0, zP tc.b), (1, zI i), (2, zI k), (7, w), (8, zP b), (11, zI j_9')] _ ?_)
        obtain ⟨J0_15', hJ_15', h⟩ := h
        refine n5 (X := (List Bool) × (List TE)) (fun σ => J0_15' σ.1 σ.2) (fun σ => [(0, zP tc.b), (1, zI i), (2, zI k), (7, w), (8, zP b), (11, zI j_9')]) (fun σ => [HA.row w 4 1 σ.1.length (σ.1.flatMap q7), tab tc σ.2, HA.blk b (.cells (ndC (nl.getD (i).toNat default)).toArray 63 (0, 0))]) ?_ (fun K0_141' hK_141' => ?_)
        ·rintro ⟨l_25', c_20'⟩ hj
         replace h := hJ_15' l_25' c_20' hj
         show WC _ _ _ _ [(0, zP tc.b), (1, zI i), (2, zI k), (7, w), (8, zP b), (11, zI j_9')] [HA.row w 4 1 l_25'.length (l_25'.flatMap q7), tab tc c_20', HA.blk b (.cells (ndC (nl.getD (i).toNat default)).toArray 63 (0, 0))]
         refine a4 ?_
         refine wm ?_
         obtain ⟨o_304', h⟩ := h
         refine wv (OV.add rfl rfl o_304') ?_
         refine wa ?_
         refine WL.nil ?_
         exact kh (hK_137' (j_9' + 1, l_25', c_20') h.1 h.2) [2, 0, 1]
        ·skip
         refine d6 ?_
         refine a6 (fun _ hK_142' => ?_)
         refine a4 ?_
         refine wm ?_
         refine wm ?_
         obtain ⟨o_305', h⟩ := h
         refine wv (OV.indexRow 1 rfl rfl rfl w3 o_305') ?_
         refine wv (OV.loadE1 (f := q7) 1 rfl rfl aam (by omega) rfl aad) ?_
         refine WL.nil ?_
         refine kg (hK_142' [(0, zP tc.b), (1, zI i), (2, zI k), (7, w), (8, zP b), (11, zI j_9'), (195, zB (l_24'.getD (j_9').toNat default))] _ ?_)
         refine b6 (b := (l_24'.getD (j_9').toNat default)) rfl (fun hb => ?_) (fun hb => ?_)
         ·replace h := j4 h hb
          refine a4 ?_
          refine wm ?_
          refine wm ?_
          refine wv (OV.fieldAddr0 rfl x5) ?_
          refine wv (OV.load rfl (At.own 0 rfl) (adu _) b5) ?_
          refine wm ?_
          obtain ⟨o_306', h⟩ := h
          refine WL.pick (H' := [tab tc c_19', HA.blk b (.cells (ndC (nl.getD (i).toNat default)).toArray 63 (0, 0)), HA.row w 4 1 l_24'.length (l_24'.flatMap q7)]) [2, 0, 1] rfl rfl ?_
          refine WL.callS1 adz rfl (o_306') rfl (LOk.inn hi1) trivial rfl rfl (fun r H' hS => ?_) (fun c H' hS => ?_)
          ·obtain ⟨u_27', d_27', e_27', hc, ho⟩ := hS
           obtain ⟨hr1, hr2⟩ := Out.ret.inj ho
           subst hr2
           replace hr1 := hr1.symm
           subst hr1
           replace h := h u_27' d_27' e_27' hc
           obtain ⟨o_307', h⟩ := h
           obtain ⟨o_308', h⟩ := h
           refine WL.pick (H' := [HA.row w 4 1 l_24'.length (l_24'.flatMap q7), tab tc d_27', HA.blk b (.cells (ndC (nl.getD (i).toNat default)).toArray 63 (0, 0))]) [2, 0, 1] rfl rfl ?_
           refine WL.call1 apc rfl (al6 w l_24' u_27' e_27' o_308') rfl (LOk.tab 0 rfl o_307') trivial rfl rfl ?_
           refine WL.nil ?_
           exact kh (hK_141' (orL l_24' e_27', d_27') h) [0, 1, 2]
          ·obtain ⟨u_27', d_27', e_27', hc, ho⟩ := hS
           cases ho
         ·replace h := j5 h hb
          refine b7 ?_
          exact kh (hK_141' (l_24', c_19') h) [1, 2, 0]
       ·replace h := j5 h hb
        refine s5 ?_
        exact kh (hK_97' (l_24', c_19') h) [1, 2]
      ·replace h := j5 h hb
       refine a6 (fun _ hK_143' => ?_)
       refine ar4 [0, 1, 2, 3, 5, 6, 7, 8] [4, 9, 10, 11] [0, 1, 2] [HA.blk b (.cells (ndC (nl.getD (i).toNat default)).toArray 63 (0, 0)), HA.row w 4 1 (o5 ((tc.s.length : Int) + 1)).length ((o5 ((tc.s.length : Int) + 1)).flatMap q7), HA.row (Value.slice none 0 0) 4 1 ([] : List Bool).length (([] : List Bool).flatMap q7)] rfl rfl g8 (by kernel_rfl) (fun T_1' hT_1' => ?_)
       refine TW.val (OV.move rfl) rfl rfl rfl ?_
       refine TW.val (OV.fieldAddr0 rfl x5) rfl rfl rfl ?_
       refine TW.val (OV.load rfl (At.own 0 rfl) (adu _) b5) rfl rfl rfl ?_
       refine TW.val (OV.move rfl) rfl rfl rfl ?_
       refine TW.val (OV.move rfl) rfl rfl rfl ?_
       refine TW.val (OV.fieldAddr0 rfl adc) rfl rfl rfl ?_
       refine TW.val (OV.load rfl (At.own 0 rfl) (aly _) b5) rfl rfl rfl ?_
       refine TW.val (OV.move rfl) rfl rfl rfl ?_
       refine TW.nil (hT_1' _ ?_)
       obtain ⟨o_309', h⟩ := h
       refine WLX.pick (H' := [tab tc sg, HA.blk b (.cells (ndC (nl.getD (i).toNat default)).toArray 63 (0, 0)), HA.row w 4 1 (o5 ((tc.s.length : Int) + 1)).length ((o5 ((tc.s.length : Int) + 1)).flatMap q7), HA.row (Value.slice none 0 0) 4 1 ([] : List Bool).length (([] : List Bool).flatMap q7)]) [3, 0, 1, 2] rfl rfl ?_
       obtain ⟨R_2', hI_2', hm_2'⟩ := (id hi1 : LIn _ _ _ _)
       refine WLX.callS [0, 1, 2] rfl (EN.fn adz rfl) rfl (o_309' R_2' hI_2') rfl rfl (ROk.olds hm_2') rfl rfl (fun r H' hS => ?_) (fun c H' hS => ?_)
       ·obtain ⟨u_28', d_28', e_28', hc, ho⟩ := hS
        obtain ⟨hr1, hr2⟩ := Out.ret.inj ho
        subst hr2
        replace hr1 := hr1.symm
        subst hr1
        replace h := h u_28' d_28' e_28' hc
        obtain ⟨o_310', h⟩ := h
        obtain ⟨R_3', hI_3', hm_3'⟩ := (id hi1 : LIn _ _ _ _)
        refine WLX.callS [0, 1, 2] rfl (EN.fn adz rfl) rfl (o_310' R_3' hI_3') rfl rfl (ROk.olds hm_3') rfl rfl (fun r H' hS => ?_) (fun c H' hS => ?_)
        ·obtain ⟨u_29', d_29', e_29', hc, ho⟩ := hS
         obtain ⟨hr1, hr2⟩ := Out.ret.inj ho
         subst hr2
         replace hr1 := hr1.symm
         subst hr1
         replace h := h u_29' d_29' e_29' hc
         refine WLX.op [1, 2, 3] rfl rfl (OpK.val (OV.assign rfl) rfl rfl) rfl ?_
         refine WLX.opZ (OpK.val (OV.assign rfl) rfl rfl) rfl ?_
         refine WLX.nil ?_
         refine kg (hK_143' [(0, zP tc.b), (1, zI i), (2, zI k), (7, w), (8, zP b), (12, u_28'), (13, u_29')] _ ?_)
         refine a6 (fun _ hK_144' => ?_)
         refine a4 ?_
         refine wm ?_
         refine wa ?_
         refine WL.nil ?_
         refine kg (hK_144' [(0, zP tc.b), (1, zI i), (2, zI k), (7, w), (8, zP b), (12, u_28'), (13, u_29'), (14, zI k)] _ ?_)
         refine d6 ?_
         refine WC.pick (H' := [tab tc d_29', HA.blk b (.cells (ndC (nl.getD (i).toNat default)).toArray 63 (0, 0)), HA.row w 4 1 (o5 ((tc.s.length : Int) + 1)).length ((o5 ((tc.s.length : Int) + 1)).flatMap q7)]) [0, 1, 2] rfl rfl ?_
         obtain ⟨Inv_5', mu_5', h0_5', hr_5'⟩ := h
         refine w9 (S := Int × (List Bool)) (fun σ => Inv_5' σ.1 σ.2) (fun σ => mu_5' σ.1 σ.2) (fun σ => [(0, zP tc.b), (1, zI i), (2, zI k), (7, w), (8, zP b), (12, u_28'), (13, u_29'), (14, zI σ.1)]) (fun σ => [tab tc d_29', HA.blk b (.cells (ndC (nl.getD (i).toNat default)).toArray 63 (0, 0)), HA.row w 4 1 σ.2.length (σ.2.flatMap q7)]) (k, o5 ((tc.s.length : Int) + 1)) h0_5' ⟨rfl, rfl, rfl, rfl, rfl, rfl, rfl, rfl, trivial⟩ rfl ?_
         rintro ⟨j_11', l_29'⟩ hi K0_175' hK_175'
         have h := hr_5' j_11' l_29' hi
         show WC _ _ _ _ [(0, zP tc.b), (1, zI i), (2, zI k), (7, w), (8, zP b), (12, u_28'), (13, u_29'), (14, zI j_11')] [tab tc d_29', HA.blk b (.cells (ndC (nl.getD (i).toNat default)).toArray 63 (0, 0)), HA.row w 4 1 l_29'.length (l_29'.flatMap q7)]
         refine a6 (fun _ hK_176' => ?_)
         refine a6 (fun _ hK_177' => ?_)
         refine a4 ?_
         refine wm ?_
         refine wm ?_
         refine wv (OV.nilCheck rfl) ?_
         refine wv (OV.fieldAddr0 rfl aa0) ?_
         refine wv (OV.load rfl (At.tab 0 rfl) rfl w6) ?_
         refine wv (OV.len rfl j7) ?_
         refine wv (OV.leq rfl rfl) ?_
         refine WL.nil ?_
         refine kg (hK_177' [(0, zP tc.b), (1, zI i), (2, zI k), (7, w), (8, zP b), (12, u_28'), (13, u_29'), (14, zI j_11'), (70, zB (decide (j_11' ≤ (tc.s.length : Int))))] _ ?_)
         refine b6 (b := decide (j_11' ≤ (tc.s.length : Int))) rfl (fun hb => ?_) (fun hb => ?_)
         ·replace h := j4 h hb
          refine b7 ?_
          refine kg (hK_176' [(0, zP tc.b), (1, zI i), (2, zI k), (7, w), (8, zP b), (12, u_28'), (13, u_29'), (14, zI j_11')] _ ?_)
          obtain ⟨J0_18', hJ_18', h⟩ := h
          refine n5 (X := (List Bool)) (fun σ => J0_18' σ) (fun σ => [(0, zP tc.b), (1, zI i), (2, zI k), (7, w), (8, zP b), (12, u_28'), (13, u_29'), (14, zI j_11')]) (fun σ => [tab tc d_29', HA.blk b (.cells (ndC (nl.getD (i).toNat default)).toArray 63 (0, 0)), HA.row w 4 1 σ.length (σ.flatMap q7)]) ?_ (fun K0_184' hK_184' => ?_)
          ·rintro l_30' hj
           replace h := hJ_18' l_30' hj
           show WC _ _ _ _ [(0, zP tc.b), (1, zI i), (2, zI k), (7, w), (8, zP b), (12, u_28'), (13, u_29'), (14, zI j_11')] [tab tc d_29', HA.blk b (.cells (ndC (nl.getD (i).toNat default)).toArray 63 (0, 0)), HA.row w 4 1 l_30'.length (l_30'.flatMap q7)]
           refine a4 ?_
           refine wm ?_
           obtain ⟨o_433', h⟩ := h
           refine wv (OV.add rfl rfl o_433') ?_
           refine wa ?_
           refine WL.nil ?_
           exact kh (hK_175' (j_11' + 1, l_30') h.1 h.2) [0, 1, 2]
          ·skip
           refine d6 ?_
           refine a6 (fun _ hK_185' => ?_)
           refine a4 ?_
           refine wv (OV.fieldAddr0 rfl aaq) ?_
           refine wv (OV.load rfl (At.own 1 rfl) (alz _) b5) ?_
           refine WL.nil ?_
           refine kg (hK_185' [(0, zP tc.b), (1, zI i), (2, zI k), (7, w), (8, zP b), (12, u_28'), (13, u_29'), (14, zI j_11'), (74, zI ((nl.getD (i).toNat default).1))] _ ?_)
           refine d6 ?_
           refine a6 (fun _ hK_186' => ?_)
           refine a4 ?_
           refine wv (OV.eql rfl rfl) ?_
           refine wa ?_
           refine WL.nil ?_
           refine kg (hK_186' [(0, zP tc.b), (1, zI i), (2, zI k), (7, w), (8, zP b), (12, u_28'), (13, u_29'), (14, zI j_11'), (74, zI ((nl.getD (i).toNat default).1)), (89, zB (decide ((nl.getD (i).toNat default).1 = 3)))] _ ?_)
           refine b6 (b := decide ((nl.getD (i).toNat default).1 = 3)) rfl (fun hb => ?_) (fun hb => ?_)
           ·replace h := j4 h hb
            refine a4 ?_
            refine wm ?_
            refine wm ?_
            refine wm ?_
            refine wm ?_
            obtain ⟨o_434', h⟩ := h
            obtain ⟨o_435', h⟩ := h
            refine wv (OV.tabO (l := e_28') 0 rfl o_434' rfl rfl w3 o_435') ?_
            obtain ⟨o_436', h⟩ := h
            refine wv (OV.tabOB (l := e_28') 0 rfl o_436' rfl (by omega) aad) ?_
            refine wm ?_
            obtain ⟨o_440', h⟩ := h
            refine WL.cut 5 [(0, zP tc.b), (1, zI i), (2, zI k), (7, w), (8, zP b), (12, u_28'), (13, u_29'), (14, zI j_11'), (91, w), (92, zI j_11'), (102, zB ((e_28'.getD (j_11').toNat default) || (e_29'.getD (j_11').toNat default)))] ?_ (fun K0_187' hK_187' => ?_)
            rotate_left
            ·refine WL.split ((e_28'.getD (j_11').toNat default)) (fun hb => ?_) (fun hb => ?_)
             ·refine WL.set 97 rfl (congrArg zB hb) ?_
              refine wk ?_
              refine wk ?_
              refine wk ?_
              refine wk ?_
              refine wv (OV.pickT rfl rfl) ?_
              refine WL.set 102 rfl (oT (v := (e_29'.getD (j_11').toNat default)) hb) ?_
              exact WL.end_ (kg hK_187')
             ·obtain ⟨o_437', o_438', o_439'⟩ := o_440' hb
              refine WL.set 97 rfl (congrArg zB hb) ?_
              refine wm ?_
              refine wm ?_
              refine wv (OV.tabO (l := e_29') 0 rfl o_437' rfl rfl w3 o_438') ?_
              refine wv (OV.tabOB (l := e_29') 0 rfl o_439' rfl (by omega) aad) ?_
              refine wv (OV.pickF rfl rfl) ?_
              refine WL.set 102 rfl (oF (v := (e_29'.getD (j_11').toNat default)) hb) ?_
              exact WL.end_ (kg hK_187')
            obtain ⟨o_441', h⟩ := h
            refine wv (OV.indexRow 2 rfl rfl rfl w3 o_441') ?_
            refine WL.storeE (f := q7) (z := (e_28'.getD (j_11').toNat default) || (e_29'.getD (j_11').toNat default)) 2 rfl rfl rfl aam (by decide) (by omega) rfl aau rfl rfl ?_
            refine WL.nil ?_
            exact kh (hK_184' (l_29'.set ((j_11').toNat) ((e_28'.getD (j_11').toNat default) || (e_29'.getD (j_11').toNat default))) h) [0, 1, 2]
           ·replace h := j5 h hb
            refine a6 (fun _ hK_188' => ?_)
            refine a4 ?_
            refine wv (OV.eql rfl rfl) ?_
            refine wa ?_
            refine WL.nil ?_
            refine kg (hK_188' [(0, zP tc.b), (1, zI i), (2, zI k), (7, w), (8, zP b), (12, u_28'), (13, u_29'), (14, zI j_11'), (104, zB (decide ((nl.getD (i).toNat default).1 = 5)))] _ ?_)
            refine b6 (b := decide ((nl.getD (i).toNat default).1 = 5)) rfl (fun hb => ?_) (fun hb => ?_)
            ·replace h := j4 h hb
             refine a4 ?_
             refine wm ?_
             refine wm ?_
             refine wm ?_
             refine wm ?_
             obtain ⟨o_442', h⟩ := h
             obtain ⟨o_443', h⟩ := h
             refine wv (OV.tabO (l := e_28') 0 rfl o_442' rfl rfl w3 o_443') ?_
             obtain ⟨o_444', h⟩ := h
             refine wv (OV.tabOB (l := e_28') 0 rfl o_444' rfl (by omega) aad) ?_
             refine wm ?_
             obtain ⟨o_448', h⟩ := h
             refine WL.cut 5 [(0, zP tc.b), (1, zI i), (2, zI k), (7, w), (8, zP b), (12, u_28'), (13, u_29'), (14, zI j_11'), (106, w), (107, zI j_11'), (117, zB ((e_28'.getD (j_11').toNat default) && (e_29'.getD (j_11').toNat default)))] ?_ (fun K0_189' hK_189' => ?_)
             rotate_left
             ·refine WL.split ((e_28'.getD (j_11').toNat default)) (fun hb => ?_) (fun hb => ?_)
              ·obtain ⟨o_445', o_446', o_447'⟩ := o_448' hb
               refine WL.set 112 rfl (congrArg zB hb) ?_
               refine wm ?_
               refine wm ?_
               refine wv (OV.tabO (l := e_29') 0 rfl o_445' rfl rfl w3 o_446') ?_
               refine wv (OV.tabOB (l := e_29') 0 rfl o_447' rfl (by omega) aad) ?_
               refine wv (OV.pickT rfl rfl) ?_
               refine WL.set 117 rfl (bT (v := (e_29'.getD (j_11').toNat default)) hb) ?_
               exact WL.end_ (kg hK_189')
              ·refine WL.set 112 rfl (congrArg zB hb) ?_
               refine wk ?_
               refine wk ?_
               refine wk ?_
               refine wk ?_
               refine wv (OV.pickF rfl rfl) ?_
               refine WL.set 117 rfl (bF (v := (e_29'.getD (j_11').toNat default)) hb) ?_
               exact WL.end_ (kg hK_189')
             obtain ⟨o_449', h⟩ := h
             refine wv (OV.indexRow 2 rfl rfl rfl w3 o_449') ?_
             refine WL.storeE (f := q7) (z := (e_28'.getD (j_11').toNat default) && (e_29'.getD (j_11').toNat default)) 2 rfl rfl rfl aam (by decide) (by omega) rfl aau rfl rfl ?_
             refine WL.nil ?_
             exact kh (hK_184' (l_29'.set ((j_11').toNat) ((e_28'.getD (j_11').toNat default) && (e_29'.getD (j_11').toNat default))) h) [0, 1, 2]
            ·replace h := j5 h hb
             refine a4 ?_
             refine wm ?_
             refine wm ?_
             refine wm ?_
             refine wm ?_
             obtain ⟨o_450', h⟩ := h
             obtain ⟨o_451', h⟩ := h
             refine wv (OV.tabO (l := e_28') 0 rfl o_450' rfl rfl w3 o_451') ?_
             obtain ⟨o_452', h⟩ := h
             refine wv (OV.tabOB (l := e_28') 0 rfl o_452' rfl (by omega) aad) ?_
             refine wm ?_
             obtain ⟨o_456', h⟩ := h
             refine WL.cut 6 [(0, zP tc.b), (1, zI i), (2, zI k), (7, w), (8, zP b), (12, u_28'), (13, u_29'), (14, zI j_11'), (75, w), (76, zI j_11'), (87, zB ((e_28'.getD (j_11').toNat default) && (!(e_29'.getD (j_11').toNat default))))] ?_ (fun K0_190' hK_190' => ?_)
             rotate_left
             ·refine WL.split ((e_28'.getD (j_11').toNat default)) (fun hb => ?_) (fun hb => ?_)
              ·obtain ⟨o_453', o_454', o_455'⟩ := o_456' hb
               refine WL.set 81 rfl (congrArg zB hb) ?_
               refine wm ?_
               refine wm ?_
               refine wv (OV.tabO (l := e_29') 0 rfl o_453' rfl rfl w3 o_454') ?_
               refine wv (OV.tabOB (l := e_29') 0 rfl o_455' rfl (by omega) aad) ?_
               refine wv (OV.not rfl) ?_
               refine wv (OV.pickT rfl rfl) ?_
               refine WL.set 87 rfl (bT (v := !(e_29'.getD (j_11').toNat default)) hb) ?_
               exact WL.end_ (kg hK_190')
              ·refine WL.set 81 rfl (congrArg zB hb) ?_
               refine wk ?_
               refine wk ?_
               refine wk ?_
               refine wk ?_
               refine wk ?_
               refine wv (OV.pickF rfl rfl) ?_
               refine WL.set 87 rfl (bF (v := !(e_29'.getD (j_11').toNat default)) hb) ?_
               exact WL.end_ (kg hK_190')
             obtain ⟨o_457', h⟩ := h
             refine wv (OV.indexRow 2 rfl rfl rfl w3 o_457') ?_
             refine WL.storeE (f := q7) (z := (e_28'.getD (j_11').toNat default) && (!(e_29'.getD (j_11').toNat default))) 2 rfl rfl rfl aam (by decide) (by omega) rfl aau rfl rfl ?_
             refine WL.nil ?_
             exact kh (hK_184' (l_29'.set ((j_11').toNat) ((e_28'.getD (j_11').toNat default) && (!(e_29'.getD (j_11').toNat default)))) h) [0, 1, 2]
         ·replace h := j5 h hb
          refine s5 ?_
          exact kh (hK_97' (l_29', d_29') h) [2, 0]
        ·obtain ⟨u_29', d_29', e_29', hc, ho⟩ := hS
         cases ho
       ·obtain ⟨u_28', d_28', e_28', hc, ho⟩ := hS
        cases ho
theorem azu (w : Value) (r : Int) (nl : List ND) (s : List UInt8) (hl : nl.length ≤ 1099511627776) (hb : 24 * (s.length + 1) ≤ 281474976710656) (R : List (Nat × Obj)) (hR : aeb w R nl.length (nl.flatMap ndC)) :
  d5 Tryd.prog 24 [.agg [w, .int .i64 r].toArray, st s] (R ++ []) [] (fun o => ∃ b E rs, rs.length = nl.length ∧ o = .ret (zP b) [tab ⟨b, E, rs, s.length, w, r, s⟩ []]) := by
 refine d5.closeTab (Ok := fun rs => rs.length = nl.length) ((a0r w r nl s R hR (fun l rs => l = rs ∧ rs.length = nl.length) ?_).weak ?_)
 ·unfold aqu
  refine ⟨⟨by omega, by omega, by omega⟩, fun _ => ⟨fun i l c => 0 ≤ i ∧ i ≤ nl.length ∧ (c.length : Int) = i ∧ l = c ++ List.replicate (nl.length - i.toNat) (Value.slice none 0 0), fun i _ _ => (nl.length - i).toNat, ⟨by omega, by omega, rfl, by simp⟩, ?_⟩⟩
  rintro i l c ⟨i0, i1, hc, rfl⟩
  by_cases hi : i < nl.length
  ·rw [if_pos (by simpa using hi)]
   have hlen : (c ++ List.replicate (nl.length - i.toNat) (Value.slice none 0 0)).length = nl.length := by rw [List.length_append, List.length_replicate]; omega
   refine ⟨by unfold I64; omega, ⟨by omega, by omega, by omega⟩, fun w4 => ⟨⟨i0, by rw [hlen]; omega⟩, by rw [hlen]; omega, by unfold I64; omega, ⟨by omega, by omega, by rw [List.length_append, List.length_singleton]; omega, ?_⟩, by show (nl.length - (i + 1)).toNat < (nl.length - i).toNat; omega⟩⟩
   obtain ⟨m, hm⟩ : ∃ m, nl.length - i.toNat = m + 1 := ⟨nl.length - i.toNat - 1, by omega⟩
   rw [hm, List.replicate_succ, show nl.length - (i + 1).toNat = m by omega, List.set_append_right _ _ (by omega), show i.toNat - c.length = 0 by omega, List.set_cons_zero, List.append_assoc]
   rfl
  ·rw [if_neg (by simpa using hi)]
   have : nl.length - i.toNat = 0 := by omega
   rw [this, List.replicate_zero, List.append_nil]
   exact ⟨rfl, by omega⟩
 ·rintro o (⟨b, E, l, rs, h, rfl⟩ | h)
  ·exact ⟨b, E, l, rs, h, rfl⟩
  ·cases h
structure TabW (nl : List ND) (c : TabC) : Prop where
 rows : c.rvs.length = nl.length
 n : c.n = c.s.length
 small : 24 * (c.s.length + 1) ≤ 281474976710656
section
variable {nl : List ND} {c : TabC} {σ : List TE} {i k : Int} {x : Tr}
theorem awj {i k : Nat} (h : (akm σ i k).isSome = true) : ∃ l, (i, k, air σ i k, l) ∈ σ := by
 unfold air
 unfold akm at h ⊢
 cases hf : σ.find? (fun e => decide (e.1 = i ∧ e.2.1 = k)) with
 | none => rw [hf] at h; cases h
 | some e =>
  have hm := List.mem_of_find?_eq_some hf
  have hp := List.find?_some hf
  simp only [decide_eq_true_eq] at hp
  obtain ⟨rfl, rfl⟩ := hp
  exact ⟨e.2.2.2, hm⟩
theorem ahp {X : (List Bool → List TE → Prop) → Prop} (hw : TabW nl c) (h : Den nl i x) (k0 : 0 ≤ k) (k1 : k ≤ c.s.length) (hσ : ai9 nl c σ)
  (hX : ∀ J0 : List Bool → List TE → Prop, (∀ l d, ai9 nl c d → (∀ e ∈ σ, e ∈ d) → l = m9 c.s x k.toNat → J0 l d) → X J0) :
  (0 ≤ i ∧ i < (c.rvs.length : Int)) ∧ (0 ≤ k ∧ k < (c.n : Int) + 1) ∧ (∀ e ∈ σ, e.2.2.2 ≠ []) ∧
  (if ((akm σ ((i).toNat) ((k).toNat)).isSome) = true then
   (0 ≤ i ∧ i < (c.rvs.length : Int)) ∧ (0 ≤ k ∧ k < (c.n : Int) + 1) ∧ ∃ l, ait nl c σ i k (air σ (i).toNat (k).toNat) σ l
  else
   (I64 ((c.s.length : Int) + 1)) ∧ (0 ≤ ((c.s.length : Int) + 1) ∧ (1 : Int) * ((c.s.length : Int) + 1) ≤ 281474976710656 ∧ ((c.s.length : Int) + 1) ≤ 9223372036854775807) ∧
   ∀ (w : Value), (0 ≤ i ∧ i < (nl.length : Int)) ∧ ∃ (J0 : (List Bool) → (List TE) → Prop),
    (∀ (l : List Bool) (d : List TE), J0 l d → (0 ≤ i ∧ i < (c.rvs.length : Int)) ∧ (0 ≤ k ∧ k < (c.n : Int) + 1) ∧ ∃ l', ait nl c σ i k w (((i).toNat, (k).toNat, w, l) :: d) l') ∧ X J0) := by
 have hi := h.lt
 have hsm := hw.small
 have b1 : 0 ≤ i ∧ i < (c.rvs.length : Int) := by rw [hw.rows]; exact hi
 have b2 : 0 ≤ k ∧ k < (c.n : Int) + 1 := by rw [hw.n]; omega
 have ei : ((i.toNat : Nat) : Int) = i := by omega
 refine ⟨b1, b2, fun e he => ?_, ?_⟩
 ·rw [hσ e he]
  intro h0
  have := aas c.s (u6 nl e.1) e.2.1
  rw [h0] at this; simp at this
 ·by_cases hh : (akm σ i.toNat k.toNat).isSome = true
  ·rw [if_pos hh]
   obtain ⟨l, hl⟩ := awj hh
   refine ⟨b1, b2, l, hσ, fun _ he => he, ⟨_, _, hl⟩, ?_⟩
   have := hσ _ hl
   simp only [ei] at this
   exact this
  ·rw [if_neg hh]
   refine ⟨by unfold I64; omega, ⟨by omega, by omega, by omega⟩, fun w => ⟨hi, fun l d => ai9 nl c d ∧ (∀ e ∈ σ, e ∈ d) ∧ l = m9 c.s x k.toNat, ?_, hX _ fun l d h1 h2 h3 => ⟨h1, h2, h3⟩⟩⟩
   rintro l d ⟨h1, h2, rfl⟩
   refine ⟨b1, b2, m9 c.s x k.toNat, ?_, fun e he => List.mem_cons_of_mem _ (h2 e he), ⟨_, _, List.mem_cons_self⟩, by rw [ade h]⟩
   intro e he
   rcases List.mem_cons.1 he with rfl | he
   ·simp only [ei, ade h]
   ·exact h1 e he
theorem ax8 {a : List Bool} {B : Nat → List Bool} {N j : Nat} {out : List Bool} (h : j < N) : ajk a B (N - j) j out = ajk a B (N - (j + 1)) (j + 1) (if a.getD j default = true then orL out (B j) else out) := by
 rw [show N - j = (N - (j + 1)) + 1 by omega, ajk]
theorem atx {B : Nat → List Bool} {N j : Nat} {out : List Bool} (h : j < N) : aem B (N - j) j out = aem B (N - (j + 1)) (j + 1) (if out.getD j default = true then orL out (B j) else out) := by
 rw [show N - j = (N - (j + 1)) + 1 by omega, aem]
theorem axu {op : Bool → Bool → Bool} {a b : List Bool} {N j : Nat} {out : List Bool} (h : j < N) : aib op a b (N - j) j out = aib op a b (N - (j + 1)) (j + 1) (out.set j (op (a.getD j default) (b.getD j default))) := by
 rw [show N - j = (N - (j + 1)) + 1 by omega, aib]
theorem aod {n : Nat} {op : Bool → Bool → Bool} {a b : List Bool} {k : Int} {l0 : List Bool} {Y : Int → List Bool → (List Bool → Prop) → Prop} {Z : List Bool → Prop} (hn : n ≤ 281474976710656) (h0 : l0.length = n + 1) (k0 : 0 ≤ k) (k1 : k ≤ n)
  (hY : ∀ (j : Int) (l : List Bool) (J : List Bool → Prop), 0 ≤ j → j ≤ n → l.length = n + 1 → J (l.set j.toNat (op (a.getD j.toNat default) (b.getD j.toNat default))) → Y j l J) (hZ : ∀ l, l = aib op a b (n + 1 - k.toNat) k.toNat l0 → Z l) :
  ∃ (Inv : Int → (List Bool) → Prop) (mu : Int → (List Bool) → Nat), Inv k l0 ∧ ∀ (j : Int) (l : List Bool), Inv j l →
   (if (decide (j ≤ (n : Int))) = true then ∃ (J : (List Bool) → Prop), (∀ (l' : List Bool), J l' → (I64 (j + 1)) ∧ Inv (j + 1) l' ∧ mu (j + 1) l' < mu j l) ∧ Y j l J else Z l) := by
 refine ⟨fun j l => 0 ≤ j ∧ j ≤ n + 1 ∧ l.length = n + 1 ∧ aib op a b (n + 1 - j.toNat) j.toNat l = aib op a b (n + 1 - k.toNat) k.toNat l0, fun j _ => (n + 1 - j).toNat, ⟨k0, by omega, h0, rfl⟩, ?_⟩
 rintro j l ⟨j0, j1, hl, he⟩
 by_cases hj : j ≤ n
 ·rw [if_pos (by simpa using hj)]
  refine ⟨fun l' => l' = l.set j.toNat (op (a.getD j.toNat default) (b.getD j.toNat default)), ?_, hY j l _ j0 hj hl rfl⟩
  rintro l' rfl
  refine ⟨by unfold I64; omega, ⟨by omega, by omega, by rw [List.length_set]; exact hl, ?_⟩, by show (n + 1 - (j + 1)).toNat < (n + 1 - j).toNat; omega⟩
  rw [← he, axu (N := n + 1) (j := j.toNat) (by omega), show (j + 1).toNat = j.toNat + 1 by omega]
 ·rw [if_neg (by simpa using hj)]
  refine hZ l ?_
  rw [← he, show n + 1 - j.toNat = 0 by omega, aib]
theorem axf (hr : azf nl) (hw : TabW nl c) {i : Int} {x : Tr} (h : Den nl i x) : ∀ (k : Int), 0 ≤ k → k ≤ c.s.length → ∀ σ, ai9 nl c σ → aof nl c σ i k := by
 have hsm := hw.small
 have hz := abj c.s
 have fin : ∀ {i k : Int} {σ : List TE} (o : Out), (∃ (v : Value) (D : List TE), (∃ l, ait nl c σ i k v D l) ∧ o = .ret v [tab c D]) ∨ False → ∃ u d l, ait nl c σ i k u d l ∧ o = .ret u [tab c d] := by
  rintro i k σ o (⟨u, d, ⟨l, hl⟩, rfl⟩ | h)
  ·exact ⟨u, d, l, hl, rfl⟩
  ·cases h
 induction h with
 | @eps i h0 h1 h2 h3 =>
  intro k k0 k1 σ hσ R hR
  refine (ajq c σ nl i k R hR (fun u d => ∃ l, ait nl c σ i k u d l) ?_).weak fin
  unfold afj
  simp only [aql]
  refine ahp hw (.eps h0 h1 h2 h3) k0 k1 hσ fun J0 hJ => ?_
  rw [if_pos (by simpa using h2)]
  exact ⟨⟨k0, by rw [hz]; omega⟩, hJ _ _ hσ (fun _ he => he) rfl⟩
 | @cls i cs h0 h1 h2 h3 =>
  intro k k0 k1 σ hσ R hR
  refine (ajq c σ nl i k R hR (fun u d => ∃ l, ait nl c σ i k u d l) ?_).weak fin
  unfold afj
  simp only [aql]
  refine ahp hw (.cls h0 h1 h2 h3) k0 k1 hσ fun J0 hJ => ?_
  rw [if_neg (by simp [h2]), if_pos (by simpa using h2)]
  have hlt := (c.s.getD k.toNat 0).toNat_lt
  refine ⟨fun hk => ⟨⟨k0, by simpa using hk⟩, by unfold I64; omega, by omega, by omega⟩, ?_⟩
  rw [Int.toNat_natCast, h3 _ hlt]
  by_cases hk : k < c.s.length
  ·by_cases hb : cs.getLsbD (c.s.getD k.toNat 0).toNat = true
   ·rw [if_pos (by rw [Bool.and_eq_true]; exact ⟨by simpa using hk, hb⟩)]
    refine ⟨by unfold I64; omega, ⟨by omega, by rw [hz]; omega⟩, hJ _ _ hσ (fun _ he => he) ?_⟩
    unfold m9
    rw [if_pos ⟨by omega, hb⟩, show (k + 1).toNat = k.toNat + 1 by omega]
   ·rw [if_neg (by rw [Bool.and_eq_true]; exact fun h => hb h.2)]
    refine hJ _ _ hσ (fun _ he => he) ?_
    unfold m9
    rw [if_neg (fun h => hb h.2)]
  ·rw [if_neg (by simp [hk])]
   refine hJ _ _ hσ (fun _ he => he) ?_
   unfold m9
   rw [if_neg (fun h => hk (by omega))]
 | @star i x h0 h1 h2 h3 h4 ih =>
  intro k k0 k1 σ hσ R hR
  refine (ajq c σ nl i k R hR (fun u d => ∃ l, ait nl c σ i k u d l) ?_).weak fin
  unfold afj
  simp only [aql]
  refine ahp hw (.star h0 h1 h2 h3 h4) k0 k1 hσ fun J0 hJ => ?_
  rw [if_neg (by simp [h2]), if_neg (by simp [h2]), if_neg (by simp [h2]), if_pos (by simpa using h2)]
  refine ⟨⟨k0, by rw [hz]; omega⟩, fun j l d => k ≤ j ∧ j ≤ c.s.length + 1 ∧ ai9 nl c d ∧ (∀ e ∈ σ, e ∈ d) ∧ l.length = c.s.length + 1 ∧ aem (m9 c.s x) (c.s.length + 1 - j.toNat) j.toNat l = aem (m9 c.s x) (c.s.length + 1 - k.toNat) k.toNat ((o5 ((c.s.length : Int) + 1)).set k.toNat true), fun j _ _ => (c.s.length + 1 - j).toNat, ⟨by omega, by omega, hσ, fun _ he => he, by rw [List.length_set]; exact hz, rfl⟩, ?_⟩
  rintro j l d ⟨j0, j1, hd, hsub, hl, he⟩
  by_cases hj : j ≤ c.s.length
  ·rw [if_pos (by simpa using hj)]
   have hst := atx (B := m9 c.s x) (N := c.s.length + 1) (j := j.toNat) (out := l) (by omega)
   refine ⟨fun l' d' => ai9 nl c d' ∧ (∀ e ∈ σ, e ∈ d') ∧ l' = (if l.getD j.toNat default = true then orL l (m9 c.s x j.toNat) else l), ?_, ⟨by omega, by omega⟩, ?_⟩
   ·rintro l' d' ⟨q1, q2, rfl⟩
    refine ⟨by unfold I64; omega, ⟨by omega, by omega, q1, q2, ?_, ?_⟩, by show (c.s.length + 1 - (j + 1)).toNat < (c.s.length + 1 - j).toNat; omega⟩
    ·split
     ·rw [ajv (by rw [hl, aas]), hl]
     ·exact hl
    ·rw [← he, hst, show (j + 1).toNat = j.toNat + 1 by omega]
   ·by_cases hc : l.getD j.toNat default = true
    ·rw [if_pos hc]
     refine ⟨ih j (by omega) hj d hd, ?_⟩
     rintro u d' e ⟨q1, q2, q3, rfl⟩
     rw [ade h4] at q3 ⊢
     refine ⟨q3, ⟨by rw [hl, aas], by omega⟩, q1, fun e he => q2 e (hsub e he), by rw [if_pos hc]⟩
    ·rw [if_neg hc]
     exact ⟨hd, hsub, by rw [if_neg hc]⟩
  ·rw [if_neg (by simpa using hj)]
   refine hJ _ _ hd hsub ?_
   rw [show m9 c.s (.star x) k.toNat = aem (m9 c.s x) (c.s.length + 1 - k.toNat) k.toNat ((o5 ((c.s.length : Int) + 1)).set k.toNat true) by rw [m9], ← he, show c.s.length + 1 - j.toNat = 0 by omega, aem]
 | @bin i op x y h0 h1 h2 h3 h4 h5 h6 h7 ih1 ih2 =>
  intro k k0 k1 σ hσ R hR
  refine (ajq c σ nl i k R hR (fun u d => ∃ l, ait nl c σ i k u d l) ?_).weak fin
  unfold afj
  simp only [aql]
  refine ahp hw (.bin h0 h1 h2 h3 h4 h5 h6 h7) k0 k1 hσ fun J0 hJ => ?_
  rw [if_neg (by simp; omega), if_neg (by simp; omega)]
  by_cases hop : op = 2
  ·subst hop
   rw [if_pos (by simpa using h2)]
   refine ⟨ih1 k k0 k1 σ hσ, ?_⟩
   rintro u d0 e ⟨q1, q2, q3, rfl⟩
   rw [ade h6] at q3 ⊢
   have ea := aas c.s x k.toNat
   refine ⟨fun j d l => k ≤ j ∧ j ≤ c.s.length + 1 ∧ ai9 nl c d ∧ (∀ e ∈ σ, e ∈ d) ∧ InT d u (m9 c.s x k.toNat) ∧ l.length = c.s.length + 1 ∧ ajk (m9 c.s x k.toNat) (m9 c.s y) (c.s.length + 1 - j.toNat) j.toNat l = ajk (m9 c.s x k.toNat) (m9 c.s y) (c.s.length + 1 - k.toNat) k.toNat (o5 ((c.s.length : Int) + 1)), fun j _ _ => (c.s.length + 1 - j).toNat, ⟨by omega, by omega, q1, q2, q3, hz, rfl⟩, ?_⟩
   rintro j d l ⟨j0, j1, hd, hsub, hin, hl, he⟩
   by_cases hj : j ≤ c.s.length
   ·rw [if_pos (by simpa using hj)]
    have hst := ax8 (a := m9 c.s x k.toNat) (B := m9 c.s y) (N := c.s.length + 1) (j := j.toNat) (out := l) (by omega)
    refine ⟨fun l' d' => ai9 nl c d' ∧ (∀ e ∈ σ, e ∈ d') ∧ InT d' u (m9 c.s x k.toNat) ∧ l' = (if (m9 c.s x k.toNat).getD j.toNat default = true then orL l (m9 c.s y j.toNat) else l), ?_, hin, ⟨by omega, by omega⟩, hin, ?_⟩
    ·rintro l' d' ⟨p1, p2, p3, rfl⟩
     refine ⟨by unfold I64; omega, ⟨by omega, by omega, p1, p2, p3, ?_, ?_⟩, by show (c.s.length + 1 - (j + 1)).toNat < (c.s.length + 1 - j).toNat; omega⟩
     ·split
      ·rw [ajv (by rw [hl, aas]), hl]
      ·exact hl
     ·rw [← he, hst, show (j + 1).toNat = j.toNat + 1 by omega]
    ·by_cases hc : (m9 c.s x k.toNat).getD j.toNat default = true
     ·rw [if_pos hc]
      refine ⟨ih2 j (by omega) hj d hd, ?_⟩
      rintro u2 d' e ⟨p1, p2, p3, rfl⟩
      rw [ade h7] at p3 ⊢
      obtain ⟨i9, k9, hm9⟩ := hin
      refine ⟨p3, ⟨by rw [hl, aas], by omega⟩, p1, fun e he => p2 e (hsub e he), ⟨i9, k9, p2 _ hm9⟩, by rw [if_pos hc]⟩
     ·rw [if_neg hc]
      exact ⟨hd, hsub, hin, by rw [if_neg hc]⟩
   ·rw [if_neg (by simpa using hj)]
    refine hJ _ _ hd hsub ?_
    rw [show m9 c.s (ag3 2 x y) k.toNat = ajk (m9 c.s x k.toNat) (m9 c.s y) (c.s.length + 1 - k.toNat) k.toNat (o5 ((c.s.length : Int) + 1)) by rw [show ag3 2 x y = .cat x y from rfl, m9], ← he, show c.s.length + 1 - j.toNat = 0 by omega, ajk]
  ·rw [if_neg (by simp; omega), if_neg (by simp; omega)]
   refine ⟨ih1 k k0 k1 σ hσ, ?_⟩
   rintro u1 d1 e1 ⟨p1, p2, p3, rfl⟩
   rw [ade h6] at p3 ⊢
   refine ⟨ih2 k k0 k1 d1 p1, ?_⟩
   rintro u2 d2 e2 ⟨q1, q2, q3, rfl⟩
   rw [ade h7] at q3 ⊢
   have ea := aas c.s x k.toNat
   have eb := aas c.s y k.toNat
   have p4 : InT d2 u1 (m9 c.s x k.toNat) := by
    obtain ⟨i9, k9, hm9⟩ := p3
    exact ⟨i9, k9, q2 _ hm9⟩
   have hsub : ∀ e ∈ σ, e ∈ d2 := fun e he => q2 e (p2 e he)
   have key : ∀ f : Bool → Bool → Bool, m9 c.s (ag3 op x y) k.toNat = aib f (m9 c.s x k.toNat) (m9 c.s y k.toNat) (c.s.length + 1 - k.toNat) k.toNat (o5 ((c.s.length : Int) + 1)) → ∀ l, l = aib f (m9 c.s x k.toNat) (m9 c.s y k.toNat) (c.s.length + 1 - k.toNat) k.toNat (o5 ((c.s.length : Int) + 1)) → J0 l d2 := fun f hf l hl => hJ _ _ q1 hsub (by rw [hl, hf])
   rcases h3 with rfl | rfl | rfl | rfl
   ·exact absurd rfl hop
   ·refine aod (op := (· || ·)) (a := m9 c.s x k.toNat) (b := m9 c.s y k.toNat) (by omega) hz k0 k1 (fun j l J j0 j1 hl hJ' => ?_) (key _ (by rw [show ag3 3 x y = .alt x y from rfl, m9]))
    rw [if_pos (by simpa using h2)]
    exact ⟨p4, ⟨j0, by omega⟩, p4, fun _ => ⟨q3, ⟨j0, by omega⟩, q3⟩, ⟨j0, by omega⟩, hJ'⟩
   ·refine aod (op := (· && ·)) (a := m9 c.s x k.toNat) (b := m9 c.s y k.toNat) (by omega) hz k0 k1 (fun j l J j0 j1 hl hJ' => ?_) (key _ (by rw [show ag3 5 x y = .and x y from rfl, m9]))
    rw [if_neg (by simp [h2]), if_pos (by simpa using h2)]
    exact ⟨p4, ⟨j0, by omega⟩, p4, fun _ => ⟨q3, ⟨j0, by omega⟩, q3⟩, ⟨j0, by omega⟩, hJ'⟩
   ·refine aod (op := fun x y => x && !y) (a := m9 c.s x k.toNat) (b := m9 c.s y k.toNat) (by omega) hz k0 k1 (fun j l J j0 j1 hl hJ' => ?_) (key _ (by rw [show ag3 6 x y = .minus x y from rfl, m9]))
    rw [if_neg (by simp [h2]), if_neg (by simp [h2])]
    exact ⟨p4, ⟨j0, by omega⟩, p4, fun _ => ⟨q3, ⟨j0, by omega⟩, q3⟩, ⟨j0, by omega⟩, hJ'⟩
 | rep h0 h1 h2 => exact absurd h2 (hr _ h0 h1)
end
end Go.Proofs.YtffhedoahdgniaaDoor
set_option maxRecDepth 100000
namespace Go.Proofs.YtffhedoahdgniaaDoor
open Go Go.RowKit
theorem axp : r8 Tryd.prog 24 = true := by kernel_rfl
def ah7 (w : Value) (re_1 : Int) (rel : List ND) (s : List UInt8) (K : Bool → Prop) : Prop :=
 (rel.length ≤ 1099511627776) ∧
 (24 * (s.length + 1) ≤ 281474976710656) ∧
 (∀ (b_1' : Nat) (E : Value) (rs : List Value), rs.length = rel.length →
  (aof rel ⟨b_1', E, rs, s.length, w, re_1, s⟩ ([] : List TE) re_1 0) ∧
  (∀ (u : Value) (d : List TE) (e : List Bool), ait rel ⟨b_1', E, rs, s.length, w, re_1, s⟩ ([] : List TE) re_1 0 u d e →
   (InT d u e) ∧
   (0 ≤ (s.length : Int) ∧ (s.length : Int) < (e.length : Int)) ∧
   (InT d u e) ∧
   K (e.getD ((s.length : Int)).toNat default)))
theorem as9 (w : Value) (re_1 : Int) (rel : List ND) (s : List UInt8) (Ri1 : List (Nat × Obj)) (hRi1 : aeb w Ri1 rel.length (rel.flatMap ndC)) (K : Bool → Prop) (h : ah7 w re_1 rel s K) :
  d5 Tryd.prog 8 [Value.agg [w, zI re_1].toArray, st s] (Ri1 ++ []) [] (fun o => (∃ (v : Bool), K v ∧ o = .ret (zB v) []) ∨ (False)) := by
 unfold ah7 at h
 refine c8 (n := 15) (L0 := [(0, Value.agg [w, zI re_1].toArray), (1, st s)]) Tryd.func8 rfl rfl rfl rfl (fun w0 M Q hE => ?_)
 have hi1 : LIn ⟨15, [], w0, M, (Ri1 ++ [])⟩ w rel.length (rel.flatMap ndC) := LIn.mk hRi1 (fun p hp => by simp [hp])
 refine a6 (fun _ hK => ?_)
 refine a4 ?_
 refine WL.make (MV.box (cs := [w, zI re_1]) rfl rfl) rfl rfl rfl (fun b => ?_)
 refine wa ?_
 refine WL.nil ?_
 refine kg (hK [(1, st s), (2, zP b)] _ ?_)
 refine a6 (fun _ hK_1' => ?_)
 refine ar4 [0, 1, 3, 4, 6, 7] [2, 5, 8, 9, 10] [0] [HA.blk b (.cells [w, zI re_1].toArray 32 (0, 0))] rfl rfl g8 (by kernel_rfl) (fun T hT => ?_)
 refine TW.val (OV.loadR rfl (At.own 0 rfl) x4) rfl rfl rfl ?_
 refine TW.val (OV.move rfl) rfl rfl rfl ?_
 refine TW.val (OV.fieldAddr0 rfl ah5) rfl rfl rfl ?_
 refine TW.val (OV.load rfl (At.own 0 rfl) rfl b5) rfl rfl rfl ?_
 refine TW.val (OV.move rfl) rfl rfl rfl ?_
 refine TW.val (OV.len rfl j7) rfl rfl rfl ?_
 refine TW.nil (hT _ ?_)
 obtain ⟨o, h⟩ := h
 obtain ⟨o_1', h⟩ := h
 obtain ⟨R, hI, hm⟩ := (id hi1 : LIn _ _ _ _)
 refine WLX.callS [0] rfl (EN.fn axp rfl) rfl ((azu w re_1 rel s o o_1') R hI) rfl rfl (ROk.olds hm) rfl rfl (fun r H' hS => ?_) (fun c H' hS => ?_)
 ·obtain ⟨b_1', E, rs, hc, ho⟩ := hS
  cases ho
  replace h := h b_1' E rs hc
  obtain ⟨o_2', h⟩ := h
  obtain ⟨R_1', hI_1', hm_1'⟩ := (id hi1 : LIn _ _ _ _)
  refine WLX.callS [0] rfl (EN.fn adz rfl) rfl (o_2' R_1' hI_1') rfl rfl (ROk.olds hm_1') rfl rfl (fun r H' hS => ?_) (fun c H' hS => ?_)
  ·obtain ⟨u, d, e, hc, ho⟩ := hS
   obtain ⟨hr1, hr2⟩ := Out.ret.inj ho
   subst hr2
   replace hr1 := hr1.symm
   subst hr1
   replace h := h u d e hc
   obtain ⟨o_3', h⟩ := h
   obtain ⟨o_4', h⟩ := h
   refine WLX.op [1] rfl rfl (OpK.val (OV.tabO (l := e) 0 rfl o_3' rfl rfl w3 o_4') rfl rfl) rfl ?_
   obtain ⟨o_5', h⟩ := h
   refine WLX.op [1] rfl rfl (OpK.val (OV.tabOB (l := e) 0 rfl o_5' rfl (by omega) aad) rfl rfl) rfl ?_
   refine WLX.opZ (OpK.val (OV.assign rfl) rfl rfl) rfl ?_
   refine WLX.nil ?_
   refine kg (hK_1' [(4, zB (e.getD ((s.length : Int)).toNat default))] _ ?_)
   refine c9 ?_
   exact hE.ret [] rfl rfl (.inl ⟨_, h, rfl⟩) (f9.of1 rfl (RV.tmp rfl))
  ·obtain ⟨u, d, e, hc, ho⟩ := hS
   cases ho
 ·obtain ⟨b_1', E, rs, hc, ho⟩ := hS
  cases ho
def aav (s : List UInt8) (x : Tr) : Bool := (m9 s x 0).getD s.length default
theorem agw (w : Value) (nl : List ND) (r : Int) (s : List UInt8) (h : azq nl r ∧ 24 * (s.length + 1) ≤ 281474976710656) (R : List (Nat × Obj)) (hR : aeb w R nl.length (nl.flatMap ndC)) :
  d5 Tryd.prog 8 [.agg [w, .int .i64 r].toArray, st s] (R ++ []) [] (Ret (.bool (aav s (u6 nl r))) []) := by
 refine d5.one (e := fun v => .bool v) (as9 w r nl s R hR (fun v => v = aav s (u6 nl r)) ?_)
 obtain ⟨⟨hr, hl, x, hx, _⟩, hb⟩ := h
 unfold ah7
 refine ⟨hl, hb, fun b E rs hrs => ⟨axf hr ⟨hrs, rfl, hb⟩ hx 0 (by omega) (by show (0 : Int) ≤ (s.length : Int); omega) [] (fun e he => by cases he), ?_⟩⟩
 rintro u d e ⟨_, _, q3, rfl⟩
 refine ⟨q3, ⟨by omega, by rw [aas]; show (s.length : Int) < ((s.length + 1 : Nat) : Int); omega⟩, q3, ?_⟩
 rw [Int.toNat_natCast]; rfl
theorem ab6 : ∀ x : Tr, m9 [] x 0 = [x.null]
 | .none => by unfold m9; rw [abb]; rfl
 | .eps => by unfold m9; rw [abb]; rfl
 | .cls c => by unfold m9; rw [if_neg (fun h => absurd h.1 (by simp)), abb]; rfl
 | .cat a b => by
  unfold m9
  rw [abb, ab6 a]
  show ajk [a.null] (m9 [] b) 1 0 [false] = _
  unfold ajk ajk
  rw [ab6 b]
  show (if a.null = true then orL [false] [b.null] else [false]) = [a.null && b.null]
  cases a.null <;> cases b.null <;> rfl
 | .star a => by
  unfold m9
  rw [abb]
  show aem (m9 [] a) 1 0 [true] = _
  unfold aem aem
  rw [ab6 a]
  simp [orL, Tr.null]
 | .alt a b => by
  unfold m9
  rw [abb, ab6 a, ab6 b]
  show [a.null || b.null] = _
  simp [Tr.null]
 | .and a b => by
  unfold m9
  rw [abb, ab6 a, ab6 b]
  show [a.null && b.null] = _
  simp [Tr.null]
 | .minus a b => by
  unfold m9
  rw [abb, ab6 a, ab6 b]
  show [a.null && !b.null] = _
  simp [Tr.null]
theorem ayu (x : Tr) : aav [] x = x.null := by unfold aav; rw [ab6]; rfl
end Go.Proofs.YtffhedoahdgniaaDoor
set_option maxRecDepth 100000
namespace Go.Proofs.YtffhedoahdgniaaDoor
open Go Go.RowKit
theorem ada : m5 Tryd.prog 45 1 = some 1 := by kernel_rfl
theorem af2 : aaj Tryd.prog 43 = true := by kernel_rfl
theorem atv : aaj Tryd.prog 76 = true := by kernel_rfl
theorem s9 : abz Tryd.prog 45 = some [zI 0, Value.nilFunc] := by kernel_rfl
theorem j8 : s7 Tryd.prog 45 2 = true := by kernel_rfl
theorem i8 : RowT Tryd.prog 45 2 := ⟨by kernel_rfl, by kernel_rfl⟩
theorem adb : m5 Tryd.prog 45 0 = some 0 := by kernel_rfl
theorem ao7 : r8 Tryd.prog 41 = true := by kernel_rfl
theorem ain : Program.concrete Tryd.prog 78 = true := by kernel_rfl
theorem ahm : r8 Tryd.prog 52 = true := by kernel_rfl
theorem abq : r8 Tryd.prog 28 = true := by kernel_rfl
theorem ahl : r8 Tryd.prog 60 = true := by kernel_rfl
theorem akh : r8 Tryd.prog 61 = true := by kernel_rfl
def ak1 (B : List (Nat × Obj)) (u : Value) (x : Tr) : Prop := adj Tryd.prog B u [] x.val
def Is (B : List (Nat × Obj)) (n : Int) (u : Value) (x : Tr) : Prop := ak1 B u x ∧ n = min (x.size : Int) 2001
def y4 (n : Int) : Prop := 0 ≤ n ∧ n ≤ 1152921504606846976
def ac2 (B B' : List (Nat × Obj)) : Prop := ∀ p ∈ B, p ∈ B'
theorem ac2.refl (B : List (Nat × Obj)) : ac2 B B := fun _ h => h
theorem ac2.trans {B B' B2 : List (Nat × Obj)} (h : ac2 B B') (h' : ac2 B' B2) : ac2 B B2 := fun p hp => h' p (h p hp)
variable {B B' B2 : List (Nat × Obj)} {n sa sb : Int} {u a b : Value} {x y : Tr}
theorem ak1.more (h : ak1 B u x) (hs : ac2 B B') : ak1 B' u x := adj.more h hs
theorem Is.more (h : Is B n u x) (hs : ac2 B B') : Is B' n u x := ⟨h.1.more hs, h.2⟩
def abl (n : Int) (u : Value) : Prop := y4 n ∧ u.oneCell' = true
def ao9 (B B' : List (Nat × Obj)) (x : Tr) (n : Int) (u : Value) : Prop := ac2 B B' ∧ abl n u ∧ (x.size = 1 → Is B' n u x)
def ao1 (B B' : List (Nat × Obj)) (sa : Int) (a : Value) (n : Int) (u : Value) : Prop := ac2 B B' ∧ abl n u ∧ ∀ x, Is B sa a x → Is B' n u (.star x)
def anc (B B' : List (Nat × Obj)) (sa : Int) (a : Value) (n : Int) (u : Value) : Prop := ac2 B B' ∧ abl n u ∧ ∀ x, Is B sa a x → Is B' n u (.alt x .eps)
def agh (op : Tr → Tr → Tr) (B B' : List (Nat × Obj)) (sa : Int) (a : Value) (sb : Int) (b : Value) (n : Int) (u : Value) : Prop := ac2 B B' ∧ abl n u ∧ ∀ x y, Is B sa a x → Is B sb b y → Is B' n u (op x y)
def aub (B B' : List (Nat × Obj)) (sa : Int) (a : Value) (m k : Int) (n : Int) (u : Value) : Prop := ac2 B B' ∧ abl n u ∧ ∀ x, Is B sa a x → Is B' n u (aal x m k)
def aph (n : Int) (K : Int → Prop) : Prop :=
 K (min n 2001)
theorem axl  (n : Int) (K : Int → Prop) (h : aph n K) :
  d5 Tryd.prog 41 [zI n] [] [] (fun o => (∃ (v : Int), K v ∧ o = .ret (zI v) []) ∨ (False)) := by
 unfold aph at h
 refine c8 (n := 5) (L0 := [(0, zI n)]) Tryd.func41 rfl rfl rfl rfl (fun w0 M Q hE => ?_)
 refine a6 (fun _ hK => ?_)
 refine a4 ?_
 refine wa ?_
 refine WL.nil ?_
 refine kg (hK [(0, zI n)] _ ?_)
 refine a6 (fun _ hK_1' => ?_)
 refine a4 ?_
 refine wm ?_
 refine wv (OV.minI rfl rfl) ?_
 refine wa ?_
 refine WL.nil ?_
 refine kg (hK_1' [(2, zI (min n 2001))] _ ?_)
 refine c9 ?_
 exact hE.ret [] rfl rfl (.inl ⟨_, h, rfl⟩) (f9.of1 rfl (RV.tmp rfl))
theorem akz (n : Int) : d5 Tryd.prog 41 [.int .i64 n] [] [] (Ret (.int .i64 (min n 2001)) []) := d5.one (axl n (fun v => v = min n 2001) rfl)
def ask (c : Tr) (_ : List (Nat × Obj)) (K : Tr → Prop) : Prop :=
 K c
theorem ayi (b : Nat) (c : Tr) (B : List (Nat × Obj)) (hb : (b, .cells [Tr.val c].toArray 23 (0, 0)) ∈ B) (K : Tr → Prop) (h : ask c B K) :
  d5 Tryd.prog 59 [zP b] B [] (fun o => (∃ (v : Tr), K v ∧ o = .ret (Tr.val v) []) ∨ (False)) := by
 unfold ask at h
 refine c8 (n := 3) (L0 := [(0, zP b)]) Tryd.func59 rfl rfl rfl rfl (fun w0 M Q hE => ?_)
 refine a6 (fun _ hK => ?_)
 refine a4 ?_
 refine wa ?_
 refine WL.nil ?_
 refine kg (hK [(0, zP b)] _ ?_)
 refine a6 (fun _ hK_1' => ?_)
 refine a4 ?_
 refine wv (OV.load rfl (At.old hb) rfl m4) ?_
 refine wa ?_
 refine WL.nil ?_
 refine kg (hK_1' [(1, Tr.val c)] _ ?_)
 refine c9 ?_
 exact hE.ret [] rfl rfl (.inl ⟨_, h, rfl⟩) (f9.of1 rfl (RV.tmp rfl))
def as7 (_ : Int) (c_1 : Value) (B : List (Nat × Obj)) (K : Tr → Prop) : Prop :=
 ∃ (y : Tr), (ak1 B c_1 y) ∧ (
 K (.star y))
theorem ayf (b : Nat) (c_0 : Int) (c_1 : Value) (B : List (Nat × Obj)) (hb : (b, .cells [zI c_0, c_1].toArray 45 (0, 0)) ∈ B) (K : Tr → Prop) (h : as7 c_0 c_1 B K) :
  d5 Tryd.prog 65 [zP b] B [] (fun o => (∃ (v : Tr), K v ∧ o = .ret (Tr.val v) []) ∨ (False)) := by
 unfold as7 at h
 refine c8 (n := 7) (L0 := [(0, zP b)]) Tryd.func65 rfl rfl rfl rfl (fun w0 M Q hE => ?_)
 refine a6 (fun _ hK => ?_)
 refine a4 ?_
 refine wa ?_
 refine WL.nil ?_
 refine kg (hK [(0, zP b)] _ ?_)
 refine a6 (fun _ hK_1' => ?_)
 refine a4 ?_
 refine wv (OV.fieldAddr0 rfl ada) ?_
 refine wv (OV.load rfl (At.old hb) rfl af2) ?_
 obtain ⟨y, o, h⟩ := h
 refine WL.cv (CV.value rfl o rfl Rd.old) rfl rfl rfl ?_
 refine wv (OV.buildC (qs := [(0, [Tr.val y])]) (cs := [Tr.val y]) rfl ⟨rfl, Tr.val_cells _, trivial⟩ rfl) ?_
 refine wv (OV.cast (OV.iface rfl al1) (v' := Tr.val (.star y)) rfl) ?_
 refine wa ?_
 refine WL.nil ?_
 refine kg (hK_1' [(1, Tr.val (.star y))] _ ?_)
 refine c9 ?_
 exact hE.ret [] rfl rfl (.inl ⟨_, h, rfl⟩) (f9.of1 rfl (RV.tmp rfl))
def asw (c : Value) (_ : Int) (c_1'_1 : Value) (_ : Int) (c_2'_1 : Value) (B : List (Nat × Obj)) (K : Tr → Prop) : Prop :=
 ∃ (y : Tr), (ak1 B c_1'_1 y) ∧ (
 ∃ (y_1' : Tr), (ak1 B c_2'_1 y_1') ∧ (
 ∃ (y_2' : Tr), (adj Tryd.prog [] c [Tr.val y, Tr.val y_1'] (Tr.val y_2')) ∧ (
 K y_2')))
theorem azz (b : Nat) (b_1' : Nat) (b_2' : Nat) (c : Value) (c_1'_0 : Int) (c_1'_1 : Value) (c_2'_0 : Int) (c_2'_1 : Value) (B : List (Nat × Obj)) (hb : (b, .cells [c].toArray 76 (0, 0)) ∈ B) (hb_1' : (b_1', .cells [zI c_1'_0, c_1'_1].toArray 45 (0, 0)) ∈ B) (hb_2' : (b_2', .cells [zI c_2'_0, c_2'_1].toArray 45 (0, 0)) ∈ B) (K : Tr → Prop) (h : asw c c_1'_0 c_1'_1 c_2'_0 c_2'_1 B K) :
  d5 Tryd.prog 42 [zP b, zP b_1', zP b_2'] B [] (fun o => (∃ (v : Tr), K v ∧ o = .ret (Tr.val v) []) ∨ (False)) := by
 unfold asw at h
 refine c8 (n := 12) (L0 := [(0, zP b), (1, zP b_1'), (2, zP b_2')]) Tryd.func42 rfl rfl rfl rfl (fun w0 M Q hE => ?_)
 refine a6 (fun _ hK => ?_)
 refine a4 ?_
 refine wa ?_
 refine WL.nil ?_
 refine kg (hK [(0, zP b), (1, zP b_1'), (2, zP b_2')] _ ?_)
 refine a6 (fun _ hK_1' => ?_)
 refine q9 7 [] g8 (by kernel_rfl) rfl (fun T hT => ?_)
 refine fv (fun _ => OV.load rfl (At.old hb) rfl atv) ?_
 refine fv (fun _ => OV.fieldAddr0 rfl ada) ?_
 refine fv (fun _ => OV.load rfl (At.old hb_1') rfl af2) ?_
 obtain ⟨y, o, h⟩ := h
 refine FL.cv (fun _ => CV.value rfl o rfl Rd.old) rfl rfl (fun _ => rfl) rfl ?_
 refine fv (fun _ => OV.fieldAddr0 rfl ada) ?_
 refine fv (fun _ => OV.load rfl (At.old hb_2') rfl af2) ?_
 obtain ⟨y_1', o_1', h⟩ := h
 refine FL.cv (fun _ => CV.value rfl o_1' rfl Rd.old) rfl rfl (fun _ => rfl) rfl ?_
 refine FL.weak (L' := fun γ => [(4, c), (7, Tr.val y), (10, Tr.val y_1')]) (fun γ => ⟨rfl, rfl, rfl, trivial⟩) (FL.nil (hT (fun γ => [(4, c), (7, Tr.val y), (10, Tr.val y_1')]) (fun γ => ?_)))
 obtain ⟨y_2', o_2', h⟩ := h
 refine WL.cv (CV.value rfl o_2' rfl (Rd.nil)) rfl rfl rfl ?_
 refine wa ?_
 refine WL.nil ?_
 refine kg (hK_1' [(3, Tr.val y_2')] _ ?_)
 refine c9 ?_
 exact hE.ret [] rfl rfl (.inl ⟨_, h, rfl⟩) (f9.of1 rfl (RV.tmp rfl))
def asy (a : Tr) (b : Tr) (K : Tr → Prop) : Prop :=
 K (.cat a b)
theorem ay5  (a : Tr) (b : Tr) (K : Tr → Prop) (h : asy a b K) :
  d5 Tryd.prog 55 [Tr.val a, Tr.val b] [] [] (fun o => (∃ (v : Tr), K v ∧ o = .ret (Tr.val v) []) ∨ (False)) := by
 unfold asy at h
 refine c8 (n := 9) (L0 := [(0, Tr.val a), (1, Tr.val b)]) Tryd.func55 rfl rfl rfl rfl (fun w0 M Q hE => ?_)
 refine a6 (fun _ hK => ?_)
 refine a4 ?_
 refine wa ?_
 refine WL.nil ?_
 refine kg (hK [(0, Tr.val a), (1, Tr.val b)] _ ?_)
 refine a6 (fun _ hK_1' => ?_)
 refine a4 ?_
 refine wm ?_
 refine wm ?_
 refine wv (OV.buildC (qs := [(0, [Tr.val a]), (1, [Tr.val b])]) (cs := [Tr.val a, Tr.val b]) rfl ⟨rfl, Tr.val_cells _, ⟨rfl, Tr.val_cells _, trivial⟩⟩ rfl) ?_
 refine wv (OV.cast (OV.iface rfl amk) (v' := Tr.val (.cat a b)) rfl) ?_
 refine wa ?_
 refine WL.nil ?_
 refine kg (hK_1' [(4, Tr.val (.cat a b))] _ ?_)
 refine c9 ?_
 exact hE.ret [] rfl rfl (.inl ⟨_, h, rfl⟩) (f9.of1 rfl (RV.tmp rfl))
def asq (a : Tr) (b : Tr) (K : Tr → Prop) : Prop :=
 K (.alt a b)
theorem azd  (a : Tr) (b : Tr) (K : Tr → Prop) (h : asq a b K) :
  d5 Tryd.prog 29 [Tr.val a, Tr.val b] [] [] (fun o => (∃ (v : Tr), K v ∧ o = .ret (Tr.val v) []) ∨ (False)) := by
 unfold asq at h
 refine c8 (n := 9) (L0 := [(0, Tr.val a), (1, Tr.val b)]) Tryd.func29 rfl rfl rfl rfl (fun w0 M Q hE => ?_)
 refine a6 (fun _ hK => ?_)
 refine a4 ?_
 refine wa ?_
 refine WL.nil ?_
 refine kg (hK [(0, Tr.val a), (1, Tr.val b)] _ ?_)
 refine a6 (fun _ hK_1' => ?_)
 refine a4 ?_
 refine wm ?_
 refine wm ?_
 refine wv (OV.buildC (qs := [(0, [Tr.val a]), (1, [Tr.val b])]) (cs := [Tr.val a, Tr.val b]) rfl ⟨rfl, Tr.val_cells _, ⟨rfl, Tr.val_cells _, trivial⟩⟩ rfl) ?_
 refine wv (OV.cast (OV.iface rfl an6) (v' := Tr.val (.alt a b)) rfl) ?_
 refine wa ?_
 refine WL.nil ?_
 refine kg (hK_1' [(4, Tr.val (.alt a b))] _ ?_)
 refine c9 ?_
 exact hE.ret [] rfl rfl (.inl ⟨_, h, rfl⟩) (f9.of1 rfl (RV.tmp rfl))
def asg (a : Tr) (b : Tr) (K : Tr → Prop) : Prop :=
 K (.and a b)
theorem azy  (a : Tr) (b : Tr) (K : Tr → Prop) (h : asg a b K) :
  d5 Tryd.prog 39 [Tr.val a, Tr.val b] [] [] (fun o => (∃ (v : Tr), K v ∧ o = .ret (Tr.val v) []) ∨ (False)) := by
 unfold asg at h
 refine c8 (n := 9) (L0 := [(0, Tr.val a), (1, Tr.val b)]) Tryd.func39 rfl rfl rfl rfl (fun w0 M Q hE => ?_)
 refine a6 (fun _ hK => ?_)
 refine a4 ?_
 refine wa ?_
 refine WL.nil ?_
 refine kg (hK [(0, Tr.val a), (1, Tr.val b)] _ ?_)
 refine a6 (fun _ hK_1' => ?_)
 refine a4 ?_
 refine wm ?_
 refine wm ?_
 refine wv (OV.buildC (qs := [(0, [Tr.val a]), (1, [Tr.val b])]) (cs := [Tr.val a, Tr.val b]) rfl ⟨rfl, Tr.val_cells _, ⟨rfl, Tr.val_cells _, trivial⟩⟩ rfl) ?_
 refine wv (OV.cast (OV.iface rfl anv) (v' := Tr.val (.and a b)) rfl) ?_
 refine wa ?_
 refine WL.nil ?_
 refine kg (hK_1' [(4, Tr.val (.and a b))] _ ?_)
 refine c9 ?_
 exact hE.ret [] rfl rfl (.inl ⟨_, h, rfl⟩) (f9.of1 rfl (RV.tmp rfl))
def ano (a : Tr) (b : Tr) (K : Tr → Prop) : Prop :=
 K (.minus a b)
theorem at6  (a : Tr) (b : Tr) (K : Tr → Prop) (h : ano a b K) :
  d5 Tryd.prog 40 [Tr.val a, Tr.val b] [] [] (fun o => (∃ (v : Tr), K v ∧ o = .ret (Tr.val v) []) ∨ (False)) := by
 unfold ano at h
 refine c8 (n := 9) (L0 := [(0, Tr.val a), (1, Tr.val b)]) Tryd.func40 rfl rfl rfl rfl (fun w0 M Q hE => ?_)
 refine a6 (fun _ hK => ?_)
 refine a4 ?_
 refine wa ?_
 refine WL.nil ?_
 refine kg (hK [(0, Tr.val a), (1, Tr.val b)] _ ?_)
 refine a6 (fun _ hK_1' => ?_)
 refine a4 ?_
 refine wm ?_
 refine wm ?_
 refine wv (OV.buildC (qs := [(0, [Tr.val a]), (1, [Tr.val b])]) (cs := [Tr.val a, Tr.val b]) rfl ⟨rfl, Tr.val_cells _, ⟨rfl, Tr.val_cells _, trivial⟩⟩ rfl) ?_
 refine wv (OV.cast (OV.iface rfl amu) (v' := Tr.val (.minus a b)) rfl) ?_
 refine wa ?_
 refine WL.nil ?_
 refine kg (hK_1' [(4, Tr.val (.minus a b))] _ ?_)
 refine c9 ?_
 exact hE.ret [] rfl rfl (.inl ⟨_, h, rfl⟩) (f9.of1 rfl (RV.tmp rfl))
def ayp (f : FuncId) (op : Tr → Tr → Tr) : Prop := (∀ x y, adj Tryd.prog [] (.func (.func f) #[] ([] : List Value).toArray) [Tr.val x, Tr.val y] (Tr.val (op x y))) ∧ ∀ x y, (op x y).size = 1 + x.size + y.size
theorem Tr.cat_op : ayp 55 Tr.cat := ⟨fun x y => adj.func (by kernel_rfl) (d5.one (ay5 x y (fun v => v = .cat x y) rfl)), fun _ _ => rfl⟩
theorem Tr.alt_op : ayp 29 Tr.alt := ⟨fun x y => adj.func (by kernel_rfl) (d5.one (azd x y (fun v => v = .alt x y) rfl)), fun _ _ => rfl⟩
theorem Tr.and_op : ayp 39 Tr.and := ⟨fun x y => adj.func (by kernel_rfl) (d5.one (azy x y (fun v => v = .and x y) rfl)), fun _ _ => rfl⟩
theorem Tr.minus_op : ayp 40 Tr.minus := ⟨fun x y => adj.func (by kernel_rfl) (d5.one (at6 x y (fun v => v = .minus x y) rfl)), fun _ _ => rfl⟩
def ava (n : Tr) (B : List (Nat × Obj)) (K : Int → Value → (List (Nat × Obj)) → Prop) : Prop :=
 ∀ (b : Nat), K 1 (Value.func (.func 59) #[] [zP b].toArray) ((b, .cells [Tr.val n].toArray 23 (0, 0)) :: B)
theorem az8  (n : Tr) (B : List (Nat × Obj)) (K : Int → Value → (List (Nat × Obj)) → Prop) (h : ava n B K) :
  d5 Tryd.prog 52 [Tr.val n] [] [pool B] (fun o => (∃ (v_0 : Int) (v_1 : Value) (D : List (Nat × Obj)), K v_0 v_1 D ∧ o = .ret (Value.agg [zI v_0, v_1].toArray) [pool D]) ∨ (False)) := by
 unfold ava at h
 refine c8 (n := 5) (L0 := [(0, Tr.val n)]) Tryd.func52 rfl rfl rfl rfl (fun w0 M Q hE => ?_)
 refine a6 (fun _ hK => ?_)
 refine a4 ?_
 refine WL.make (MV.box (cs := [Tr.val n]) rfl (Tr.val_cells _)) rfl rfl rfl (fun b => ?_)
 refine WL.make (MV.alloc s9) rfl rfl rfl (fun b_1' => ?_)
 refine WL.nil ?_
 refine kg (hK [(1, zP b), (2, zP b_1')] _ ?_)
 refine a6 (fun _ hK_1' => ?_)
 refine a4 ?_
 refine wv (OV.makeFunc rfl) ?_
 refine wv (OV.build rfl (cs := [zI 1, Value.func (.func 59) #[] [zP b].toArray]) rfl) ?_
 refine WL.storeW (vs := [zI 1, Value.func (.func 59) #[] [zP b].toArray]) 0 rfl rfl rfl rfl rfl j8 rfl rfl rfl ?_
 refine WL.nil ?_
 refine kg (hK_1' [(2, zP b_1')] _ ?_)
 refine c9 ?_
 refine QX.pick (H' := [HA.blk b (.cells [Tr.val n].toArray 23 (0, 0)), pool B, HA.blk b_1' (.cells [zI 1, Value.func (.func 59) #[] [zP b].toArray].toArray 45 (0, 0))]) [1, 2, 0] rfl rfl ?_
 refine QX.absorb ?_
 exact hE.ret [0] rfl rfl (.inl ⟨_, _, _, (h b), rfl⟩) (f9.of1 rfl (RV.row rfl (At.own 1 rfl) i8))
def au8 (a_0 : Int) (a_1 : Value) (B : List (Nat × Obj)) (K : Int → Value → (List (Nat × Obj)) → Prop) : Prop :=
 (I64 (1 + a_0)) ∧
 ∀ (b : Nat), K (min (1 + a_0) 2001) (Value.func (.func 65) #[] [zP b].toArray) ((b, .cells [zI a_0, a_1].toArray 45 (0, 0)) :: B)
theorem a09  (a_0 : Int) (a_1 : Value) (B : List (Nat × Obj)) (K : Int → Value → (List (Nat × Obj)) → Prop) (h : au8 a_0 a_1 B K) :
  d5 Tryd.prog 60 [Value.agg [zI a_0, a_1].toArray] [] [pool B] (fun o => (∃ (v_0 : Int) (v_1 : Value) (D : List (Nat × Obj)), K v_0 v_1 D ∧ o = .ret (Value.agg [zI v_0, v_1].toArray) [pool D]) ∨ (False)) := by
 unfold au8 at h
 refine c8 (n := 9) (L0 := [(0, Value.agg [zI a_0, a_1].toArray)]) Tryd.func60 rfl rfl rfl rfl (fun w0 M Q hE => ?_)
 refine a6 (fun _ hK => ?_)
 refine a4 ?_
 refine WL.make (MV.box (cs := [zI a_0, a_1]) rfl rfl) rfl rfl rfl (fun b => ?_)
 refine WL.make (MV.alloc s9) rfl rfl rfl (fun b_1' => ?_)
 refine WL.nil ?_
 refine kg (hK [(1, zP b), (2, zP b_1')] _ ?_)
 refine a6 (fun _ hK_1' => ?_)
 refine a4 ?_
 refine wv (OV.fieldAddr0 rfl adb) ?_
 refine wv (OV.load rfl (At.own 1 rfl) rfl b5) ?_
 obtain ⟨o, h⟩ := h
 refine wv (OV.add rfl rfl o) ?_
 refine WL.call (A := []) ao7 rfl (akz (1 + a_0)) rfl trivial rfl rfl ?_
 refine wv (OV.makeFunc rfl) ?_
 refine wv (OV.build rfl (cs := [zI (min (1 + a_0) 2001), Value.func (.func 65) #[] [zP b].toArray]) rfl) ?_
 refine WL.storeW (vs := [zI (min (1 + a_0) 2001), Value.func (.func 65) #[] [zP b].toArray]) 0 rfl rfl rfl rfl rfl j8 rfl rfl rfl ?_
 refine WL.nil ?_
 refine kg (hK_1' [(2, zP b_1')] _ ?_)
 refine c9 ?_
 refine QX.pick (H' := [HA.blk b (.cells [zI a_0, a_1].toArray 45 (0, 0)), pool B, HA.blk b_1' (.cells [zI (min (1 + a_0) 2001), Value.func (.func 65) #[] [zP b].toArray].toArray 45 (0, 0))]) [1, 2, 0] rfl rfl ?_
 refine QX.absorb ?_
 exact hE.ret [0] rfl rfl (.inl ⟨_, _, _, (h b), rfl⟩) (f9.of1 rfl (RV.row rfl (At.own 1 rfl) i8))
def avm (a_0 : Int) (a_1 : Value) (b_0 : Int) (b_1 : Value) (make2 : Value) (B : List (Nat × Obj)) (K : Int → Value → (List (Nat × Obj)) → Prop) : Prop :=
 (make2.oneCell' = true) ∧
 (I64 (1 + a_0)) ∧
 (I64 ((1 + a_0) + b_0)) ∧
 ∀ (b_3' b_1' b_2' : Nat), K (min ((1 + a_0) + b_0) 2001) (Value.func (.func 42) #[] [zP b_3', zP b_1', zP b_2'].toArray) ((b_3', .cells [make2].toArray 76 (0, 0)) :: ((b_1', .cells [zI a_0, a_1].toArray 45 (0, 0)) :: ((b_2', .cells [zI b_0, b_1].toArray 45 (0, 0)) :: B)))
theorem a0a  (a_0 : Int) (a_1 : Value) (b_0 : Int) (b_1 : Value) (make2 : Value) (B : List (Nat × Obj)) (K : Int → Value → (List (Nat × Obj)) → Prop) (h : avm a_0 a_1 b_0 b_1 make2 B K) :
  d5 Tryd.prog 28 [Value.agg [zI a_0, a_1].toArray, Value.agg [zI b_0, b_1].toArray, make2] [] [pool B] (fun o => (∃ (v_0 : Int) (v_1 : Value) (D : List (Nat × Obj)), K v_0 v_1 D ∧ o = .ret (Value.agg [zI v_0, v_1].toArray) [pool D]) ∨ (False)) := by
 unfold avm at h
 refine c8 (n := 16) (L0 := [(0, Value.agg [zI a_0, a_1].toArray), (1, Value.agg [zI b_0, b_1].toArray), (2, make2)]) Tryd.func28 rfl rfl rfl rfl (fun w0 M Q hE => ?_)
 refine a6 (fun _ hK => ?_)
 refine a4 ?_
 refine WL.make (MV.box (cs := [zI a_0, a_1]) rfl rfl) rfl rfl rfl (fun b_1' => ?_)
 refine WL.make (MV.box (cs := [zI b_0, b_1]) rfl rfl) rfl rfl rfl (fun b_2' => ?_)
 obtain ⟨o, h⟩ := h
 refine WL.make (MV.box (cs := [make2]) rfl (aha o)) rfl rfl rfl (fun b_3' => ?_)
 refine WL.make (MV.alloc s9) rfl rfl rfl (fun b_4' => ?_)
 refine WL.nil ?_
 refine kg (hK [(3, zP b_1'), (4, zP b_2'), (5, zP b_3'), (6, zP b_4')] _ ?_)
 refine a6 (fun _ hK_1' => ?_)
 refine a4 ?_
 refine wv (OV.fieldAddr0 rfl adb) ?_
 refine wv (OV.load rfl (At.own 3 rfl) rfl b5) ?_
 obtain ⟨o_1', h⟩ := h
 refine wv (OV.add rfl rfl o_1') ?_
 refine wv (OV.fieldAddr0 rfl adb) ?_
 refine wv (OV.load rfl (At.own 2 rfl) rfl b5) ?_
 obtain ⟨o_2', h⟩ := h
 refine wv (OV.add rfl rfl o_2') ?_
 refine WL.call (A := []) ao7 rfl (akz ((1 + a_0) + b_0)) rfl trivial rfl rfl ?_
 refine wv (OV.makeFunc rfl) ?_
 refine wv (OV.build rfl (cs := [zI (min ((1 + a_0) + b_0) 2001), Value.func (.func 42) #[] [zP b_3', zP b_1', zP b_2'].toArray]) rfl) ?_
 refine WL.storeW (vs := [zI (min ((1 + a_0) + b_0) 2001), Value.func (.func 42) #[] [zP b_3', zP b_1', zP b_2'].toArray]) 0 rfl rfl rfl rfl rfl j8 rfl rfl rfl ?_
 refine WL.nil ?_
 refine kg (hK_1' [(6, zP b_4')] _ ?_)
 refine c9 ?_
 refine QX.pick (H' := [HA.blk b_2' (.cells [zI b_0, b_1].toArray 45 (0, 0)), pool B, HA.blk b_4' (.cells [zI (min ((1 + a_0) + b_0) 2001), Value.func (.func 42) #[] [zP b_3', zP b_1', zP b_2'].toArray].toArray 45 (0, 0)), HA.blk b_3' (.cells [make2].toArray 76 (0, 0)), HA.blk b_1' (.cells [zI a_0, a_1].toArray 45 (0, 0))]) [2, 4, 0, 1, 3] rfl rfl ?_
 refine QX.absorb ?_
 refine QX.pick (H' := [HA.blk b_1' (.cells [zI a_0, a_1].toArray 45 (0, 0)), pool ((b_2', .cells [zI b_0, b_1].toArray 45 (0, 0)) :: B), HA.blk b_4' (.cells [zI (min ((1 + a_0) + b_0) 2001), Value.func (.func 42) #[] [zP b_3', zP b_1', zP b_2'].toArray].toArray 45 (0, 0)), HA.blk b_3' (.cells [make2].toArray 76 (0, 0))]) [3, 0, 1, 2] rfl rfl ?_
 refine QX.absorb ?_
 refine QX.pick (H' := [HA.blk b_3' (.cells [make2].toArray 76 (0, 0)), pool ((b_1', .cells [zI a_0, a_1].toArray 45 (0, 0)) :: ((b_2', .cells [zI b_0, b_1].toArray 45 (0, 0)) :: B)), HA.blk b_4' (.cells [zI (min ((1 + a_0) + b_0) 2001), Value.func (.func 42) #[] [zP b_3', zP b_1', zP b_2'].toArray].toArray 45 (0, 0))]) [2, 0, 1] rfl rfl ?_
 refine QX.absorb ?_
 exact hE.ret [0] rfl rfl (.inl ⟨_, _, _, (h b_3' b_1' b_2'), rfl⟩) (f9.of1 rfl (RV.row rfl (At.own 1 rfl) i8))
theorem ahn (x : Tr) (B : List (Nat × Obj)) : d5 Tryd.prog 52 [x.val] [] [pool B] (fun o => ∃ n u B', ao9 B B' x n u ∧ o = .ret (.agg [.int .i64 n, u].toArray) [pool B']) := by
 refine (az8 x B (fun n u D => ao9 B D x n u) ?_).weak ?_
 ·intro b
  refine ⟨fun p hp => List.mem_cons_of_mem _ hp, ⟨by unfold y4; omega, rfl⟩, fun h => ⟨adj.func (by kernel_rfl) (d5.one (ayi b x _ (List.mem_cons_self ..) (fun v => v = x) rfl)), by rw [h]; rfl⟩⟩
 ·rintro o (⟨n, u, D, hK, rfl⟩ | h)
  ·exact ⟨n, u, D, hK, rfl⟩
  ·exact h.elim
theorem ahi (sa : Int) (a : Value) (B : List (Nat × Obj)) (h : y4 sa) : d5 Tryd.prog 60 [.agg [.int .i64 sa, a].toArray] [] [pool B] (fun o => ∃ n u B', ao1 B B' sa a n u ∧ o = .ret (.agg [.int .i64 n, u].toArray) [pool B']) := by
 refine (a09 sa a B (fun n u D => ao1 B D sa a n u) ?_).weak ?_
 ·unfold y4 at h
  refine ⟨by unfold I64; omega, fun b => ⟨fun p hp => List.mem_cons_of_mem _ hp, ⟨by unfold y4; omega, rfl⟩, fun x hx => ⟨adj.func (by kernel_rfl) (d5.one (ayf b sa a _ (List.mem_cons_self ..) (fun v => v = .star x) ⟨x, hx.1.more fun p hp => List.mem_cons_of_mem _ hp, rfl⟩)), ?_⟩⟩⟩
  have := hx.2
  simp only [Tr.size]; omega
 ·rintro o (⟨n, u, D, hK, rfl⟩ | h)
  ·exact ⟨n, u, D, hK, rfl⟩
  ·exact h.elim
theorem abt {f : FuncId} {op : Tr → Tr → Tr} (hop : ayp f op) (sa : Int) (a : Value) (sb : Int) (b : Value) (B : List (Nat × Obj)) (h : y4 sa ∧ y4 sb) :
  d5 Tryd.prog 28 [.agg [.int .i64 sa, a].toArray, .agg [.int .i64 sb, b].toArray, .func (.func f) #[] ([] : List Value).toArray] [] [pool B] (fun o => ∃ n u B', agh op B B' sa a sb b n u ∧ o = .ret (.agg [.int .i64 n, u].toArray) [pool B']) := by
 refine (a0a sa a sb b _ B (fun n u D => agh op B D sa a sb b n u) ?_).weak ?_
 ·unfold y4 at h
  refine ⟨rfl, by unfold I64; omega, by unfold I64; omega, fun b3 b1 b2 => ⟨fun p hp => by simp [hp], ⟨by unfold y4; omega, rfl⟩, fun x y hx hy => ⟨adj.func (by kernel_rfl) (d5.one (azz b3 b1 b2 _ sa a sb b _ (by simp) (by simp) (by simp) (fun v => v = op x y) ⟨x, hx.1.more fun p hp => by simp [hp], y, hy.1.more fun p hp => by simp [hp], op x y, hop.1 x y, rfl⟩)), ?_⟩⟩⟩
  have h1 := hx.2; have h2 := hy.2
  rw [hop.2]; omega
 ·rintro o (⟨n, u, D, hK, rfl⟩ | h)
  ·exact ⟨n, u, D, hK, rfl⟩
  ·exact h.elim
def aro (a_0 : Int) (a_1 : Value) (B : List (Nat × Obj)) (K : Int → Value → (List (Nat × Obj)) → Prop) : Prop :=
 (∀ (sz : Int) (u : Value) (B_1' : List (Nat × Obj)), ao9 B B_1' .eps sz u →
  (y4 a_0 ∧ y4 sz) ∧
  (∀ (sz_1' : Int) (u_1' : Value) (B_2' : List (Nat × Obj)), agh Tr.alt B_1' B_2' a_0 a_1 sz u sz_1' u_1' →
   (u_1'.oneCell' = true) ∧
   K sz_1' u_1' B_2'))
theorem ayn  (a_0 : Int) (a_1 : Value) (B : List (Nat × Obj)) (K : Int → Value → (List (Nat × Obj)) → Prop) (h : aro a_0 a_1 B K) :
  d5 Tryd.prog 61 [Value.agg [zI a_0, a_1].toArray] [] [pool B] (fun o => (∃ (v_0 : Int) (v_1 : Value) (D : List (Nat × Obj)), K v_0 v_1 D ∧ o = .ret (Value.agg [zI v_0, v_1].toArray) [pool D]) ∨ (False)) := by
 unfold aro at h
 refine c8 (n := 8) (L0 := [(0, Value.agg [zI a_0, a_1].toArray)]) Tryd.func61 rfl rfl rfl rfl (fun w0 M Q hE => ?_)
 refine a6 (fun _ hK => ?_)
 refine a4 ?_
 refine WL.make (MV.box (cs := [zI a_0, a_1]) rfl rfl) rfl rfl rfl (fun b => ?_)
 refine WL.make (MV.alloc s9) rfl rfl rfl (fun b_1' => ?_)
 refine WL.nil ?_
 refine kg (hK [(1, zP b), (2, zP b_1')] _ ?_)
 refine a6 (fun _ hK_1' => ?_)
 refine x1 3 [0, 1] [HA.blk b_1' (.cells [zI 0, Value.nilFunc].toArray 45 (0, 0)), HA.blk b (.cells [zI a_0, a_1].toArray 45 (0, 0))] rfl rfl g8 (by kernel_rfl) (fun T hT => ?_)
 refine TW.val (OV.loadR rfl (At.own 1 rfl) i8) rfl rfl rfl ?_
 refine TW.val (OV.build rfl (cs := []) rfl) rfl rfl rfl ?_
 refine TW.val (OV.cast (OV.iface rfl ain) (v' := Tr.val .eps) rfl) rfl rfl rfl ?_
 refine TW.nil (hT _ ?_)
 refine WLX.pick (H' := [pool B, HA.blk b_1' (.cells [zI 0, Value.nilFunc].toArray 45 (0, 0)), HA.blk b (.cells [zI a_0, a_1].toArray 45 (0, 0))]) [2, 0, 1] rfl rfl ?_
 refine WLX.callS [0, 1] rfl (EN.fn ahm rfl) rfl (ahn .eps B) rfl rfl trivial rfl rfl (fun r H' hS => ?_) (fun c H' hS => ?_)
 ·obtain ⟨sz, u, B_1', hc, ho⟩ := hS
  cases ho
  replace h := h sz u B_1' hc
  obtain ⟨o, h⟩ := h
  refine WLX.callS [0, 1] rfl (EN.fn abq rfl) rfl (abt Tr.alt_op a_0 a_1 sz u B_1' o) rfl rfl trivial rfl rfl (fun r H' hS => ?_) (fun c H' hS => ?_)
  ·obtain ⟨sz_1', u_1', B_2', hc, ho⟩ := hS
   cases ho
   replace h := h sz_1' u_1' B_2' hc
   obtain ⟨o_1', h⟩ := h
   refine WLX.opZ (OpK.storeW (vs := [zI sz_1', u_1']) 1 rfl rfl rfl rfl rfl j8 rfl (d4 rfl (d4 o_1' m6))) rfl ?_
   refine WLX.nil ?_
   refine kg (hK_1' [(2, zP b_1')] _ ?_)
   refine c9 ?_
   exact hE.ret [0] rfl rfl (.inl ⟨_, _, _, h, rfl⟩) (f9.of1 rfl (RV.row rfl (At.own 1 rfl) i8))
  ·obtain ⟨sz_1', u_1', B_2', hc, ho⟩ := hS
   cases ho
 ·obtain ⟨sz, u, B_1', hc, ho⟩ := hS
  cases ho
theorem ail (sa : Int) (a : Value) (B : List (Nat × Obj)) (h : y4 sa) : d5 Tryd.prog 61 [.agg [.int .i64 sa, a].toArray] [] [pool B] (fun o => ∃ n u B', anc B B' sa a n u ∧ o = .ret (.agg [.int .i64 n, u].toArray) [pool B']) := by
 refine (ayn sa a B (fun n u D => anc B D sa a n u) ?_).weak ?_
 ·rintro n u B1 ⟨h1, h2, h3⟩
  refine ⟨⟨h, h2.1⟩, ?_⟩
  rintro m v B2 ⟨g1, g2, g3⟩
  exact ⟨g2.2, h1.trans g1, g2, fun x hx => g3 x .eps (hx.more h1) (h3 rfl)⟩
 ·rintro o (⟨n, u, D, hK, rfl⟩ | h)
  ·exact ⟨n, u, D, hK, rfl⟩
  ·exact h.elim
def amf (a_0 : Int) (a_1 : Value) (m : Int) (n : Int) (B : List (Nat × Obj)) (K : Int → Value → (List (Nat × Obj)) → Prop) : Prop :=
 (if ((decide (m = 0)) && (decide (n < 0))) = true then
  (y4 a_0) ∧
  (∀ (sz : Int) (u : Value) (B_1' : List (Nat × Obj)), ao1 B B_1' a_0 a_1 sz u →
   (u.oneCell' = true) ∧
   K sz u B_1')
 else
  (if ((decide (m = 0)) && (decide (n = 0))) = true then
   (∀ (sz_1' : Int) (u_1' : Value) (B_2' : List (Nat × Obj)), ao9 B B_2' .eps sz_1' u_1' →
    (u_1'.oneCell' = true) ∧
    K sz_1' u_1' B_2')
  else
   (a_1.oneCell' = true) ∧
   ∃ (J0 : (List (Nat × Obj)) → Int → Value → Prop),
    (∀ (c : List (Nat × Obj)) (out_0 : Int) (out_1 : Value), J0 c out_0 out_1 →
     ∃ (Inv : Int → (List (Nat × Obj)) → Int → Value → Prop) (mu : Int → (List (Nat × Obj)) → Int → Value → Nat),
      Inv 1 c out_0 out_1 ∧ ∀ (k_1' : Int) (c_2' : List (Nat × Obj)) (out_0_2' : Int) (out_1_2' : Value), Inv k_1' c_2' out_0_2' out_1_2' →
       (if (decide (k_1' < m)) = true then
        (y4 out_0_2' ∧ y4 a_0) ∧
        (∀ (sz_5' : Int) (u_5' : Value) (B_6' : List (Nat × Obj)), agh Tr.cat c_2' B_6' out_0_2' out_1_2' a_0 a_1 sz_5' u_5' →
         (u_5'.oneCell' = true) ∧
         (I64 (k_1' + 1)) ∧
         Inv (k_1' + 1) B_6' sz_5' u_5' ∧ mu (k_1' + 1) B_6' sz_5' u_5' < mu k_1' c_2' out_0_2' out_1_2')
       else
        (if (decide (n < 0)) = true then
         (y4 a_0) ∧
         (∀ (sz_6' : Int) (u_6' : Value) (B_7' : List (Nat × Obj)), ao1 c_2' B_7' a_0 a_1 sz_6' u_6' →
          (y4 out_0_2' ∧ y4 sz_6') ∧
          (∀ (sz_7' : Int) (u_7' : Value) (B_8' : List (Nat × Obj)), agh Tr.cat B_7' B_8' out_0_2' out_1_2' sz_6' u_6' sz_7' u_7' →
           (u_7'.oneCell' = true) ∧
           K sz_7' u_7' B_8'))
        else
         ∃ (Inv_1' : Int → (List (Nat × Obj)) → Int → Value → Prop) (mu_1' : Int → (List (Nat × Obj)) → Int → Value → Nat),
          Inv_1' k_1' c_2' out_0_2' out_1_2' ∧ ∀ (k_3' : Int) (c_4' : List (Nat × Obj)) (out_0_4' : Int) (out_1_4' : Value), Inv_1' k_3' c_4' out_0_4' out_1_4' →
           (if (decide (k_3' < n)) = true then
            (y4 a_0) ∧
            (∀ (sz_12' : Int) (u_12' : Value) (B_13' : List (Nat × Obj)), anc c_4' B_13' a_0 a_1 sz_12' u_12' →
             (y4 out_0_4' ∧ y4 sz_12') ∧
             (∀ (sz_13' : Int) (u_13' : Value) (B_14' : List (Nat × Obj)), agh Tr.cat B_13' B_14' out_0_4' out_1_4' sz_12' u_12' sz_13' u_13' →
              (u_13'.oneCell' = true) ∧
              (I64 (k_3' + 1)) ∧
              Inv_1' (k_3' + 1) B_14' sz_13' u_13' ∧ mu_1' (k_3' + 1) B_14' sz_13' u_13' < mu_1' k_3' c_4' out_0_4' out_1_4'))
           else
            (out_1_4'.oneCell' = true) ∧
            K out_0_4' out_1_4' c_4')))) ∧
    (if (decide (m = 0)) = true then
     (y4 a_0) ∧
     (∀ (sz_14' : Int) (u_14' : Value) (B_15' : List (Nat × Obj)), anc B B_15' a_0 a_1 sz_14' u_14' →
      (u_14'.oneCell' = true) ∧
      J0 B_15' sz_14' u_14')
    else
     J0 B a_0 a_1)))
theorem azr  (a_0 : Int) (a_1 : Value) (m : Int) (n : Int) (B : List (Nat × Obj)) (K : Int → Value → (List (Nat × Obj)) → Prop) (h : amf a_0 a_1 m n B K) :
  d5 Tryd.prog 67 [Value.agg [zI a_0, a_1].toArray, zI m, zI n] [] [pool B] (fun o => (∃ (v_0 : Int) (v_1 : Value) (D : List (Nat × Obj)), K v_0 v_1 D ∧ o = .ret (Value.agg [zI v_0, v_1].toArray) [pool D]) ∨ (False)) := by
 unfold amf at h
 refine c8 (n := 55) (L0 := [(0, Value.agg [zI a_0, a_1].toArray), (1, zI m), (2, zI n)]) Tryd.func67 rfl rfl rfl rfl (fun w0 M Q hE => ?_)
 refine a6 (fun _ hK => ?_)
 refine a4 ?_
 refine WL.make (MV.box (cs := [zI a_0, a_1]) rfl rfl) rfl rfl rfl (fun b => ?_)
 refine WL.make (MV.alloc s9) rfl rfl rfl (fun b_1' => ?_)
 refine WL.nil ?_
 refine kg (hK [(1, zI m), (2, zI n), (3, zP b), (6, zP b_1')] _ ?_)
 refine a6 (fun _ hK_1' => ?_)
 refine a6 (fun _ hK_2' => ?_)
 refine a4 ?_
 refine wm ?_
 refine wv (OV.eql rfl rfl) ?_
 refine wm ?_
 refine WL.cut 3 [(1, zI m), (2, zI n), (3, zP b), (6, zP b_1'), (14, zB ((decide (m = 0)) && (decide (n < 0))))] ?_ (fun K0_3' hK_3' => ?_)
 rotate_left
 ·refine WL.split (decide (m = 0)) (fun hb => ?_) (fun hb => ?_)
  ·refine WL.set 11 rfl (congrArg zB hb) ?_
   refine wm ?_
   refine wv (OV.lss rfl rfl) ?_
   refine wv (OV.pickT rfl rfl) ?_
   refine WL.set 14 rfl (bT (v := decide (n < 0)) hb) ?_
   exact WL.end_ (kg hK_3')
  ·refine WL.set 11 rfl (congrArg zB hb) ?_
   refine wk ?_
   refine wk ?_
   refine wv (OV.pickF rfl rfl) ?_
   refine WL.set 14 rfl (bF (v := decide (n < 0)) hb) ?_
   exact WL.end_ (kg hK_3')
 refine WL.nil ?_
 refine kg (hK_2' [(1, zI m), (2, zI n), (3, zP b), (6, zP b_1'), (14, zB ((decide (m = 0)) && (decide (n < 0))))] _ ?_)
 refine b6 (b := (decide (m = 0)) && (decide (n < 0))) rfl (fun hb => ?_) (fun hb => ?_)
 ·replace h := j4 h hb
  refine a6 (fun _ hK_4' => ?_)
  refine a4 ?_
  refine wv (OV.loadR rfl (At.own 1 rfl) i8) ?_
  obtain ⟨o_1', h⟩ := h
  refine WL.pick (H' := [pool B, HA.blk b_1' (.cells [zI 0, Value.nilFunc].toArray 45 (0, 0)), HA.blk b (.cells [zI a_0, a_1].toArray 45 (0, 0))]) [2, 0, 1] rfl rfl ?_
  refine WL.callS ahl rfl (ahi a_0 a_1 B o_1') rfl trivial rfl rfl (fun r H' hS => ?_) (fun c H' hS => ?_)
  ·obtain ⟨sz, u, B_1', hc, ho⟩ := hS
   cases ho
   replace h := h sz u B_1' hc
   obtain ⟨o_2', h⟩ := h
   refine WL.storeW (vs := [zI sz, u]) 1 rfl rfl rfl rfl rfl j8 rfl (d4 rfl (d4 o_2' m6)) rfl ?_
   refine WL.nil ?_
   refine kg (hK_4' [(6, zP b_1')] _ ?_)
   refine c9 ?_
   exact hE.ret [0] rfl rfl (.inl ⟨_, _, _, h, rfl⟩) (f9.of1 rfl (RV.row rfl (At.own 1 rfl) i8))
  ·obtain ⟨sz, u, B_1', hc, ho⟩ := hS
   cases ho
 ·replace h := j5 h hb
  refine b7 ?_
  refine kg (hK_1' [(1, zI m), (2, zI n), (3, zP b), (6, zP b_1')] _ ?_)
  refine a6 (fun _ hK_5' => ?_)
  refine a6 (fun _ hK_6' => ?_)
  refine a4 ?_
  refine wm ?_
  refine wv (OV.eql rfl rfl) ?_
  refine wm ?_
  refine WL.cut 3 [(1, zI m), (2, zI n), (3, zP b), (6, zP b_1'), (22, zB ((decide (m = 0)) && (decide (n = 0))))] ?_ (fun K0_7' hK_7' => ?_)
  rotate_left
  ·refine WL.split (decide (m = 0)) (fun hb => ?_) (fun hb => ?_)
   ·refine WL.set 19 rfl (congrArg zB hb) ?_
    refine wm ?_
    refine wv (OV.eql rfl rfl) ?_
    refine wv (OV.pickT rfl rfl) ?_
    refine WL.set 22 rfl (bT (v := decide (n = 0)) hb) ?_
    exact WL.end_ (kg hK_7')
   ·refine WL.set 19 rfl (congrArg zB hb) ?_
    refine wk ?_
    refine wk ?_
    refine wv (OV.pickF rfl rfl) ?_
    refine WL.set 22 rfl (bF (v := decide (n = 0)) hb) ?_
    exact WL.end_ (kg hK_7')
  refine WL.nil ?_
  refine kg (hK_6' [(1, zI m), (2, zI n), (3, zP b), (6, zP b_1'), (22, zB ((decide (m = 0)) && (decide (n = 0))))] _ ?_)
  refine b6 (b := (decide (m = 0)) && (decide (n = 0))) rfl (fun hb => ?_) (fun hb => ?_)
  ·replace h := j4 h hb
   refine a6 (fun _ hK_8' => ?_)
   refine a4 ?_
   refine wv (OV.build rfl (cs := []) rfl) ?_
   refine wv (OV.cast (OV.iface rfl ain) (v' := Tr.val .eps) rfl) ?_
   refine WL.pick (H' := [pool B, HA.blk b_1' (.cells [zI 0, Value.nilFunc].toArray 45 (0, 0)), HA.blk b (.cells [zI a_0, a_1].toArray 45 (0, 0))]) [2, 0, 1] rfl rfl ?_
   refine WL.callS ahm rfl (ahn .eps B) rfl trivial rfl rfl (fun r H' hS => ?_) (fun c H' hS => ?_)
   ·obtain ⟨sz_1', u_1', B_2', hc, ho⟩ := hS
    cases ho
    replace h := h sz_1' u_1' B_2' hc
    obtain ⟨o_4', h⟩ := h
    refine WL.storeW (vs := [zI sz_1', u_1']) 1 rfl rfl rfl rfl rfl j8 rfl (d4 rfl (d4 o_4' m6)) rfl ?_
    refine WL.nil ?_
    refine kg (hK_8' [(6, zP b_1')] _ ?_)
    refine c9 ?_
    exact hE.ret [0] rfl rfl (.inl ⟨_, _, _, h, rfl⟩) (f9.of1 rfl (RV.row rfl (At.own 1 rfl) i8))
   ·obtain ⟨sz_1', u_1', B_2', hc, ho⟩ := hS
    cases ho
  ·replace h := j5 h hb
   refine b7 ?_
   refine kg (hK_5' [(1, zI m), (2, zI n), (3, zP b), (6, zP b_1')] _ ?_)
   refine a6 (fun _ hK_9' => ?_)
   refine a4 ?_
   refine wv (OV.loadR rfl (At.own 1 rfl) i8) ?_
   refine WL.make (MV.alloc s9) rfl rfl rfl (fun b_2' => ?_)
   obtain ⟨o_5', h⟩ := h
   refine WL.storeW (vs := [zI a_0, a_1]) 0 rfl rfl rfl rfl rfl j8 rfl (d4 rfl (d4 o_5' m6)) rfl ?_
   refine WL.nil ?_
   refine kg (hK_9' [(1, zI m), (2, zI n), (3, zP b), (6, zP b_1'), (7, zP b_2')] _ ?_)
   refine a6 (fun _ hK_10' => ?_)
   refine a4 ?_
   refine wa ?_
   refine WL.nil ?_
   refine kg (hK_10' [(1, zI m), (2, zI n), (3, zP b), (6, zP b_1'), (7, zP b_2'), (8, zI 1)] _ ?_)
   obtain ⟨J0, hJ, h⟩ := h
   refine n5 (X := (List (Nat × Obj)) × Int × Value) (fun σ => J0 σ.1 σ.2.1 σ.2.2) (fun σ => [(1, zI m), (2, zI n), (3, zP b), (6, zP b_1'), (7, zP b_2'), (8, zI 1)]) (fun σ => [pool σ.1, HA.blk b_2' (.cells [zI σ.2.1, σ.2.2].toArray 45 (0, 0)), HA.blk b_1' (.cells [zI 0, Value.nilFunc].toArray 45 (0, 0)), HA.blk b (.cells [zI a_0, a_1].toArray 45 (0, 0))]) ?_ (fun K0_12' hK_12' => ?_)
   ·rintro ⟨c, out_0, out_1⟩ hj
    replace h := hJ c out_0 out_1 hj
    show WC _ _ _ _ [(1, zI m), (2, zI n), (3, zP b), (6, zP b_1'), (7, zP b_2'), (8, zI 1)] [pool c, HA.blk b_2' (.cells [zI out_0, out_1].toArray 45 (0, 0)), HA.blk b_1' (.cells [zI 0, Value.nilFunc].toArray 45 (0, 0)), HA.blk b (.cells [zI a_0, a_1].toArray 45 (0, 0))]
    refine a6 (fun _ hK_13' => ?_)
    refine d6 ?_
    obtain ⟨Inv, mu, h0, hr⟩ := h
    refine w9 (S := Int × (List (Nat × Obj)) × Int × Value) (fun σ => Inv σ.1 σ.2.1 σ.2.2.1 σ.2.2.2) (fun σ => mu σ.1 σ.2.1 σ.2.2.1 σ.2.2.2) (fun σ => [(1, zI m), (2, zI n), (3, zP b), (6, zP b_1'), (7, zP b_2'), (8, zI σ.1)]) (fun σ => [pool σ.2.1, HA.blk b_2' (.cells [zI σ.2.2.1, σ.2.2.2].toArray 45 (0, 0)), HA.blk b_1' (.cells [zI 0, Value.nilFunc].toArray 45 (0, 0)), HA.blk b (.cells [zI a_0, a_1].toArray 45 (0, 0))]) (1, c, out_0, out_1) h0 ⟨rfl, rfl, rfl, rfl, rfl, rfl, trivial⟩ rfl ?_
    rintro ⟨k_1', c_2', out_0_2', out_1_2'⟩ hi K0_20' hK_20'
    have h := hr k_1' c_2' out_0_2' out_1_2' hi
    show WC _ _ _ _ [(1, zI m), (2, zI n), (3, zP b), (6, zP b_1'), (7, zP b_2'), (8, zI k_1')] [pool c_2', HA.blk b_2' (.cells [zI out_0_2', out_1_2'].toArray 45 (0, 0)), HA.blk b_1' (.cells [zI 0, Value.nilFunc].toArray 45 (0, 0)), HA.blk b (.cells [zI a_0, a_1].toArray 45 (0, 0))]
    refine a6 (fun _ hK_21' => ?_)
    refine a6 (fun _ hK_22' => ?_)
    refine a4 ?_
    refine wm ?_
    refine wm ?_
    refine wv (OV.lss rfl rfl) ?_
    refine WL.nil ?_
    refine kg (hK_22' [(1, zI m), (2, zI n), (3, zP b), (6, zP b_1'), (7, zP b_2'), (8, zI k_1'), (33, zB (decide (k_1' < m)))] _ ?_)
    refine b6 (b := decide (k_1' < m)) rfl (fun hb => ?_) (fun hb => ?_)
    ·replace h := j4 h hb
     refine b7 ?_
     refine kg (hK_21' [(1, zI m), (2, zI n), (3, zP b), (6, zP b_1'), (7, zP b_2'), (8, zI k_1')] _ ?_)
     refine a6 (fun _ hK_23' => ?_)
     refine d6 ?_
     refine a4 ?_
     refine wv (OV.loadR rfl (At.own 1 rfl) i8) ?_
     refine wv (OV.loadR rfl (At.own 3 rfl) i8) ?_
     obtain ⟨o_13', h⟩ := h
     refine WL.callS abq rfl (abt Tr.cat_op out_0_2' out_1_2' a_0 a_1 c_2' o_13') rfl trivial rfl rfl (fun r H' hS => ?_) (fun c H' hS => ?_)
     ·obtain ⟨sz_5', u_5', B_6', hc, ho⟩ := hS
      cases ho
      replace h := h sz_5' u_5' B_6' hc
      obtain ⟨o_14', h⟩ := h
      refine WL.storeW (vs := [zI sz_5', u_5']) 1 rfl rfl rfl rfl rfl j8 rfl (d4 rfl (d4 o_14' m6)) rfl ?_
      refine WL.nil ?_
      refine kg (hK_23' [(1, zI m), (2, zI n), (3, zP b), (6, zP b_1'), (7, zP b_2'), (8, zI k_1')] _ ?_)
      refine a4 ?_
      refine wm ?_
      obtain ⟨o_15', h⟩ := h
      refine wv (OV.add rfl rfl o_15') ?_
      refine wa ?_
      refine WL.nil ?_
      exact kh (hK_20' (k_1' + 1, B_6', sz_5', u_5') h.1 h.2) [0, 1, 2, 3]
     ·obtain ⟨sz_5', u_5', B_6', hc, ho⟩ := hS
      cases ho
    ·replace h := j5 h hb
     refine s5 ?_
     refine kg (hK_13' [(2, zI n), (3, zP b), (6, zP b_1'), (7, zP b_2'), (8, zI k_1')] _ ?_)
     refine a6 (fun _ hK_24' => ?_)
     refine a6 (fun _ hK_25' => ?_)
     refine a4 ?_
     refine wm ?_
     refine wv (OV.lss rfl rfl) ?_
     refine WL.nil ?_
     refine kg (hK_25' [(2, zI n), (3, zP b), (6, zP b_1'), (7, zP b_2'), (8, zI k_1'), (40, zB (decide (n < 0)))] _ ?_)
     refine b6 (b := decide (n < 0)) rfl (fun hb => ?_) (fun hb => ?_)
     ·replace h := j4 h hb
      refine a6 (fun _ hK_26' => ?_)
      refine x1 2 [1, 2, 3] [HA.blk b_2' (.cells [zI out_0_2', out_1_2'].toArray 45 (0, 0)), HA.blk b_1' (.cells [zI 0, Value.nilFunc].toArray 45 (0, 0)), HA.blk b (.cells [zI a_0, a_1].toArray 45 (0, 0))] rfl rfl g8 (by kernel_rfl) (fun T hT => ?_)
      refine TW.val (OV.loadR rfl (At.own 0 rfl) i8) rfl rfl rfl ?_
      refine TW.val (OV.loadR rfl (At.own 2 rfl) i8) rfl rfl rfl ?_
      refine TW.nil (hT _ ?_)
      obtain ⟨o_16', h⟩ := h
      refine WLX.callS [0, 1, 2] rfl (EN.fn ahl rfl) rfl (ahi a_0 a_1 c_2' o_16') rfl rfl trivial rfl rfl (fun r H' hS => ?_) (fun c H' hS => ?_)
      ·obtain ⟨sz_6', u_6', B_7', hc, ho⟩ := hS
       cases ho
       replace h := h sz_6' u_6' B_7' hc
       obtain ⟨o_17', h⟩ := h
       refine WLX.callS [0, 1, 2] rfl (EN.fn abq rfl) rfl (abt Tr.cat_op out_0_2' out_1_2' sz_6' u_6' B_7' o_17') rfl rfl trivial rfl rfl (fun r H' hS => ?_) (fun c H' hS => ?_)
       ·obtain ⟨sz_7', u_7', B_8', hc, ho⟩ := hS
        cases ho
        replace h := h sz_7' u_7' B_8' hc
        obtain ⟨o_18', h⟩ := h
        refine WLX.opZ (OpK.storeW (vs := [zI sz_7', u_7']) 2 rfl rfl rfl rfl rfl j8 rfl (d4 rfl (d4 o_18' m6))) rfl ?_
        refine WLX.nil ?_
        refine kg (hK_26' [(6, zP b_1')] _ ?_)
        refine c9 ?_
        exact hE.ret [0] rfl rfl (.inl ⟨_, _, _, h, rfl⟩) (f9.of1 rfl (RV.row rfl (At.own 2 rfl) i8))
       ·obtain ⟨sz_7', u_7', B_8', hc, ho⟩ := hS
        cases ho
      ·obtain ⟨sz_6', u_6', B_7', hc, ho⟩ := hS
       cases ho
     ·replace h := j5 h hb
      refine b7 ?_
      refine kg (hK_24' [(2, zI n), (3, zP b), (6, zP b_1'), (7, zP b_2'), (8, zI k_1')] _ ?_)
      refine a6 (fun _ hK_27' => ?_)
      refine d6 ?_
      obtain ⟨Inv_1', mu_1', h0_1', hr_1'⟩ := h
      refine w9 (S := Int × (List (Nat × Obj)) × Int × Value) (fun σ => Inv_1' σ.1 σ.2.1 σ.2.2.1 σ.2.2.2) (fun σ => mu_1' σ.1 σ.2.1 σ.2.2.1 σ.2.2.2) (fun σ => [(2, zI n), (3, zP b), (6, zP b_1'), (7, zP b_2'), (8, zI σ.1)]) (fun σ => [pool σ.2.1, HA.blk b_2' (.cells [zI σ.2.2.1, σ.2.2.2].toArray 45 (0, 0)), HA.blk b_1' (.cells [zI 0, Value.nilFunc].toArray 45 (0, 0)), HA.blk b (.cells [zI a_0, a_1].toArray 45 (0, 0))]) (k_1', c_2', out_0_2', out_1_2') h0_1' ⟨rfl, rfl, rfl, rfl, rfl, trivial⟩ rfl ?_
      rintro ⟨k_3', c_4', out_0_4', out_1_4'⟩ hi K0_34' hK_34'
      have h := hr_1' k_3' c_4' out_0_4' out_1_4' hi
      show WC _ _ _ _ [(2, zI n), (3, zP b), (6, zP b_1'), (7, zP b_2'), (8, zI k_3')] [pool c_4', HA.blk b_2' (.cells [zI out_0_4', out_1_4'].toArray 45 (0, 0)), HA.blk b_1' (.cells [zI 0, Value.nilFunc].toArray 45 (0, 0)), HA.blk b (.cells [zI a_0, a_1].toArray 45 (0, 0))]
      refine a6 (fun _ hK_35' => ?_)
      refine a6 (fun _ hK_36' => ?_)
      refine a4 ?_
      refine wm ?_
      refine wm ?_
      refine wv (OV.lss rfl rfl) ?_
      refine WL.nil ?_
      refine kg (hK_36' [(2, zI n), (3, zP b), (6, zP b_1'), (7, zP b_2'), (8, zI k_3'), (47, zB (decide (k_3' < n)))] _ ?_)
      refine b6 (b := decide (k_3' < n)) rfl (fun hb => ?_) (fun hb => ?_)
      ·replace h := j4 h hb
       refine b7 ?_
       refine kg (hK_35' [(2, zI n), (3, zP b), (6, zP b_1'), (7, zP b_2'), (8, zI k_3')] _ ?_)
       refine a6 (fun _ hK_37' => ?_)
       refine d6 ?_
       refine x1 2 [1, 2, 3] [HA.blk b_2' (.cells [zI out_0_4', out_1_4'].toArray 45 (0, 0)), HA.blk b_1' (.cells [zI 0, Value.nilFunc].toArray 45 (0, 0)), HA.blk b (.cells [zI a_0, a_1].toArray 45 (0, 0))] rfl rfl g8 (by kernel_rfl) (fun T_3' hT_3' => ?_)
       refine TW.val (OV.loadR rfl (At.own 0 rfl) i8) rfl rfl rfl ?_
       refine TW.val (OV.loadR rfl (At.own 2 rfl) i8) rfl rfl rfl ?_
       refine TW.nil (hT_3' _ ?_)
       obtain ⟨o_27', h⟩ := h
       refine WLX.callS [0, 1, 2] rfl (EN.fn akh rfl) rfl (ail a_0 a_1 c_4' o_27') rfl rfl trivial rfl rfl (fun r H' hS => ?_) (fun c H' hS => ?_)
       ·obtain ⟨sz_12', u_12', B_13', hc, ho⟩ := hS
        cases ho
        replace h := h sz_12' u_12' B_13' hc
        obtain ⟨o_28', h⟩ := h
        refine WLX.callS [0, 1, 2] rfl (EN.fn abq rfl) rfl (abt Tr.cat_op out_0_4' out_1_4' sz_12' u_12' B_13' o_28') rfl rfl trivial rfl rfl (fun r H' hS => ?_) (fun c H' hS => ?_)
        ·obtain ⟨sz_13', u_13', B_14', hc, ho⟩ := hS
         cases ho
         replace h := h sz_13' u_13' B_14' hc
         obtain ⟨o_29', h⟩ := h
         refine WLX.opZ (OpK.storeW (vs := [zI sz_13', u_13']) 1 rfl rfl rfl rfl rfl j8 rfl (d4 rfl (d4 o_29' m6))) rfl ?_
         refine WLX.nil ?_
         refine kg (hK_37' [(2, zI n), (3, zP b), (6, zP b_1'), (7, zP b_2'), (8, zI k_3')] _ ?_)
         refine a4 ?_
         refine wm ?_
         obtain ⟨o_30', h⟩ := h
         refine wv (OV.add rfl rfl o_30') ?_
         refine wa ?_
         refine WL.nil ?_
         exact kh (hK_34' (k_3' + 1, B_14', sz_13', u_13') h.1 h.2) [0, 1, 2, 3]
        ·obtain ⟨sz_13', u_13', B_14', hc, ho⟩ := hS
         cases ho
       ·obtain ⟨sz_12', u_12', B_13', hc, ho⟩ := hS
        cases ho
      ·replace h := j5 h hb
       refine s5 ?_
       refine kg (hK_27' [(6, zP b_1'), (7, zP b_2')] _ ?_)
       refine a6 (fun _ hK_38' => ?_)
       refine a4 ?_
       refine wv (OV.loadR rfl (At.own 1 rfl) i8) ?_
       obtain ⟨o_31', h⟩ := h
       refine WL.storeW (vs := [zI out_0_4', out_1_4']) 2 rfl rfl rfl rfl rfl j8 rfl (d4 rfl (d4 o_31' m6)) rfl ?_
       refine WL.nil ?_
       refine kg (hK_38' [(6, zP b_1')] _ ?_)
       refine c9 ?_
       exact hE.ret [0] rfl rfl (.inl ⟨_, _, _, h, rfl⟩) (f9.of1 rfl (RV.row rfl (At.own 2 rfl) i8))
   ·skip
    refine a6 (fun _ hK_39' => ?_)
    refine a4 ?_
    refine wm ?_
    refine wv (OV.eql rfl rfl) ?_
    refine WL.nil ?_
    refine kg (hK_39' [(1, zI m), (2, zI n), (3, zP b), (6, zP b_1'), (7, zP b_2'), (8, zI 1), (28, zB (decide (m = 0)))] _ ?_)
    refine b6 (b := decide (m = 0)) rfl (fun hb => ?_) (fun hb => ?_)
    ·replace h := j4 h hb
     refine a4 ?_
     refine wv (OV.loadR rfl (At.own 2 rfl) i8) ?_
     obtain ⟨o_32', h⟩ := h
     refine WL.pick (H' := [pool B, HA.blk b_2' (.cells [zI a_0, a_1].toArray 45 (0, 0)), HA.blk b_1' (.cells [zI 0, Value.nilFunc].toArray 45 (0, 0)), HA.blk b (.cells [zI a_0, a_1].toArray 45 (0, 0))]) [3, 0, 1, 2] rfl rfl ?_
     refine WL.callS akh rfl (ail a_0 a_1 B o_32') rfl trivial rfl rfl (fun r H' hS => ?_) (fun c H' hS => ?_)
     ·obtain ⟨sz_14', u_14', B_15', hc, ho⟩ := hS
      cases ho
      replace h := h sz_14' u_14' B_15' hc
      obtain ⟨o_33', h⟩ := h
      refine WL.storeW (vs := [zI sz_14', u_14']) 1 rfl rfl rfl rfl rfl j8 rfl (d4 rfl (d4 o_33' m6)) rfl ?_
      refine WL.nil ?_
      exact kh (hK_12' (B_15', sz_14', u_14') h) [0, 1, 2, 3]
     ·obtain ⟨sz_14', u_14', B_15', hc, ho⟩ := hS
      cases ho
    ·replace h := j5 h hb
     refine b7 ?_
     exact kh (hK_12' (B, a_0, a_1) h) [3, 0, 1, 2]
theorem auy (sa : Int) (a : Value) (m n : Int) (B : List (Nat × Obj)) (h : abl sa a ∧ 0 ≤ m ∧ m ≤ 255 ∧ n ≤ 255 ∧ -1 ≤ n) :
  d5 Tryd.prog 67 [.agg [.int .i64 sa, a].toArray, .int .i64 m, .int .i64 n] [] [pool B] (fun o => ∃ k u B', aub B B' sa a m n k u ∧ o = .ret (.agg [.int .i64 k, u].toArray) [pool B']) := by
 obtain ⟨hs, h0, h1, h2, h3⟩ := h
 refine (azr sa a m n B (fun k u D => aub B D sa a m n k u) ?_).weak ?_
 ·unfold amf
  by_cases c1 : m = 0 ∧ n < 0
  ·rw [if_pos (by simpa using c1)]
   refine ⟨hs.1, ?_⟩
   rintro k u B1 ⟨g1, g2, g3⟩
   refine ⟨g2.2, g1, g2, fun x hx => ?_⟩
   rw [aal, if_pos c1]; exact g3 x hx
  rw [if_neg (by simpa using c1)]
  by_cases c2 : m = 0 ∧ n = 0
  ·rw [if_pos (by simpa using c2)]
   rintro k u B1 ⟨g1, g2, g3⟩
   refine ⟨g2.2, g1, g2, fun x hx => ?_⟩
   rw [aal, if_neg c1, if_pos c2]; exact g3 rfl
  rw [if_neg (by simpa using c2)]
  have hT : ∀ x, aal x m n = if n < 0 then .cat (ado (if m = 0 then .alt x .eps else x) x (max m 1 - 1).toNat) (.star x) else ado (ado (if m = 0 then .alt x .eps else x) x (max m 1 - 1).toNat) (.alt x .eps) (n - max m 1).toNat := fun x => by
   rw [aal, if_neg c1, if_neg c2, show (max m 1 - 1).toNat = (m - 1).toNat by omega]
  refine ⟨hs.2, fun c o u => ac2 B c ∧ abl o u ∧ ∀ x, Is B sa a x → Is c o u (if m = 0 then .alt x .eps else x), ?_, ?_⟩
  ·rintro c o u ⟨j1, j2, j3⟩
   refine ⟨fun k c o u => ac2 B c ∧ abl o u ∧ 1 ≤ k ∧ k ≤ max m 1 ∧ ∀ x, Is B sa a x → Is c o u (ado (if m = 0 then .alt x .eps else x) x (k - 1).toNat), fun k _ _ _ => (256 - k).toNat, ⟨j1, j2, by omega, by omega, fun x hx => by simpa [ado] using j3 x hx⟩, ?_⟩
   rintro k c o u ⟨i1, i2, i3, i4, i5⟩
   by_cases hk : k < m
   ·rw [if_pos (by simpa using hk)]
    refine ⟨⟨i2.1, hs.1⟩, ?_⟩
    rintro z v B1 ⟨g1, g2, g3⟩
    refine ⟨g2.2, by unfold I64; omega, ⟨i1.trans g1, g2, by omega, by omega, fun x hx => ?_⟩, by show (256 - (k + 1)).toNat < (256 - k).toNat; omega⟩
    rw [show (k + 1 - 1).toNat = (k - 1).toNat + 1 by omega, ad5]
    exact g3 _ _ (i5 x hx) (hx.more i1)
   rw [if_neg (by simpa using hk)]
   have hkm : k = max m 1 := by omega
   by_cases hn : n < 0
   ·rw [if_pos (by simpa using hn)]
    refine ⟨hs.1, ?_⟩
    rintro z v B1 ⟨g1, g2, g3⟩
    refine ⟨⟨i2.1, g2.1⟩, ?_⟩
    rintro z2 v2 B2 ⟨q1, q2, q3⟩
    refine ⟨q2.2, (i1.trans g1).trans q1, q2, fun x hx => ?_⟩
    rw [hT, if_pos hn, ← hkm]
    exact q3 _ _ ((i5 x hx).more g1) (g3 x (hx.more i1))
   rw [if_neg (by simpa using hn)]
   refine ⟨fun k' c o u => ac2 B c ∧ abl o u ∧ k ≤ k' ∧ k' ≤ max n k ∧ ∀ x, Is B sa a x → Is c o u (ado (ado (if m = 0 then .alt x .eps else x) x (k - 1).toNat) (.alt x .eps) (k' - k).toNat), fun k _ _ _ => (300 - k).toNat, ⟨i1, i2, by omega, by omega, fun x hx => by simpa [ado] using i5 x hx⟩, ?_⟩
   rintro k' c o u ⟨e1, e2, e3, e4, e5⟩
   by_cases hk' : k' < n
   ·rw [if_pos (by simpa using hk')]
    refine ⟨hs.1, ?_⟩
    rintro z v B1 ⟨g1, g2, g3⟩
    refine ⟨⟨e2.1, g2.1⟩, ?_⟩
    rintro z2 v2 B2 ⟨q1, q2, q3⟩
    refine ⟨q2.2, by unfold I64; omega, ⟨(e1.trans g1).trans q1, q2, by omega, by omega, fun x hx => ?_⟩, by show (300 - (k' + 1)).toNat < (300 - k').toNat; omega⟩
    rw [show (k' + 1 - k).toNat = (k' - k).toNat + 1 by omega, ad5]
    exact q3 _ _ ((e5 x hx).more g1) (g3 x (hx.more e1))
   ·rw [if_neg (by simpa using hk')]
    refine ⟨e2.2, e1, e2, fun x hx => ?_⟩
    rw [hT, if_neg hn, ← hkm]
    by_cases hkn : k ≤ n
    ·rw [show n = k' by omega]; exact e5 x hx
    ·have := e5 x hx
     rw [show (k' - k).toNat = 0 by omega] at this
     rw [show (n - k).toNat = 0 by omega]; exact this
  ·by_cases hm : m = 0
   ·rw [if_pos (by simpa using hm)]
    refine ⟨hs.1, ?_⟩
    rintro z v B1 ⟨g1, g2, g3⟩
    exact ⟨g2.2, g1, g2, fun x hx => by rw [if_pos hm]; exact g3 x hx⟩
   ·rw [if_neg (by simpa using hm)]
    exact ⟨ac2.refl B, hs, fun x hx => by rw [if_neg hm]; exact hx⟩
 ·rintro o (⟨n, u, D, hK, rfl⟩ | h)
  ·exact ⟨n, u, D, hK, rfl⟩
  ·exact h.elim
end Go.Proofs.YtffhedoahdgniaaDoor
