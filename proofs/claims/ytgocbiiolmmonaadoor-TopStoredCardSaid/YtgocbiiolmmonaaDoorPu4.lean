/-
  Merged: ArS, ArK, TsD.
-/
import Derived.Test.YtgocbiiolmmonaaDoorPu3
set_option maxRecDepth 100000
namespace Go.Proofs.YtgocbiiolmmonaaDoor
open Go Go.RowKit
theorem aam : n9 Tryd.prog 12 = true := by kernel_rfl
theorem p6 : agr Tryd.prog 9 = some ([st []], 1, 16) := by kernel_rfl
theorem afa : n9 Tryd.prog 14 = true := by kernel_rfl
theorem ab6 : ∀ (k u : Nat), u < 10 ^ (k + 1) → (Lib.decDigits u).length ≤ k + 1
 | 0, u, h => by rw [Lib.decDigits, dif_pos (by simpa using h)]; simp
 | k + 1, u, h => by
  rw [Lib.decDigits]
  split
  ·simp
  ·rw [List.length_append]
   have := ab6 k (u / 10) (by rw [Nat.pow_succ] at h; omega)
   simp only [List.length_cons, List.length_nil]; omega
theorem aa7 {n : Int} (h : I64 n) : (Lib.itoa n).length ≤ 21 := by
 have h1 := h.1
 have h2 := h.2
 unfold Lib.itoa
 split
 ·have := ab6 19 n.natAbs (by omega)
  simp only [List.length_cons]; omega
 ·have := ab6 19 n.toNat (by omega)
  omega
def afy (c_0 : List UInt8) (c_1 : List UInt8) (c_2 : List UInt8) (c_3 : List UInt8) (c_4 : List UInt8) (c_5 : Int) (c_6 : Int) (c_7 : Int) (c_8 : Int) (c_9 : Int) (c_10 : List UInt8) (K : (List (List UInt8)) → Prop) : Prop :=
 (I64 c_5) ∧
 ∃ (J0 : (List (List UInt8)) → Prop),
  (∀ (l : List (List UInt8)), J0 l →
   ∃ (J0_1' : (List (List UInt8)) → Prop),
    (∀ (l_1' : List (List UInt8)), J0_1' l_1' →
     ∃ (J0_2' : (List (List UInt8)) → Prop),
      (∀ (l_2' : List (List UInt8)), J0_2' l_2' →
       (((l_2'.length + 1) + (l_2'.length + 1) / 4 + 192) * 16 ≤ 281474976710656 ∧ l_2'.length + 1 ≤ 9223372036854775807) ∧
       ∃ (Inv : Int → (List (List UInt8)) → Prop) (mu : Int → (List (List UInt8)) → Nat),
        Inv 0 (l_2' ++ [([45, 45] : List UInt8)]) ∧ ∀ (it_1_1' : Int) (l_4' : List (List UInt8)), Inv it_1_1' l_4' →
         (0 ≤ it_1_1' ∧ ∀ c ∈ ((b6 c_0).2.1), c.toNat < 128) ∧
         (if (decide (it_1_1' < (((b6 c_0).2.1).length : Int))) = true then
          (if (decide (((((b6 c_0).2.1).getD it_1_1'.toNat 0).toNat : Int) = 108)) = true then
           (((l_4'.length + 1) + (l_4'.length + 1) / 4 + 192) * 16 ≤ 281474976710656 ∧ l_4'.length + 1 ≤ 9223372036854775807) ∧
           Inv (it_1_1' + 1) (l_4' ++ [c_1]) ∧ mu (it_1_1' + 1) (l_4' ++ [c_1]) < mu it_1_1' l_4'
          else
           (if (decide (((((b6 c_0).2.1).getD it_1_1'.toNat 0).toNat : Int) = 118)) = true then
            (((l_4'.length + 1) + (l_4'.length + 1) / 4 + 192) * 16 ≤ 281474976710656 ∧ l_4'.length + 1 ≤ 9223372036854775807) ∧
            Inv (it_1_1' + 1) (l_4' ++ [c_2]) ∧ mu (it_1_1' + 1) (l_4' ++ [c_2]) < mu it_1_1' l_4'
           else
            (if (decide (((((b6 c_0).2.1).getD it_1_1'.toNat 0).toNat : Int) = 115)) = true then
             (((l_4'.length + 1) + (l_4'.length + 1) / 4 + 192) * 16 ≤ 281474976710656 ∧ l_4'.length + 1 ≤ 9223372036854775807) ∧
             Inv (it_1_1' + 1) (l_4' ++ [c_3]) ∧ mu (it_1_1' + 1) (l_4' ++ [c_3]) < mu it_1_1' l_4'
            else
             (if (decide (((((b6 c_0).2.1).getD it_1_1'.toNat 0).toNat : Int) = 116)) = true then
              (((l_4'.length + 1) + (l_4'.length + 1) / 4 + 192) * 16 ≤ 281474976710656 ∧ l_4'.length + 1 ≤ 9223372036854775807) ∧
              Inv (it_1_1' + 1) (l_4' ++ [c_10]) ∧ mu (it_1_1' + 1) (l_4' ++ [c_10]) < mu it_1_1' l_4'
             else
              (if (decide (((((b6 c_0).2.1).getD it_1_1'.toNat 0).toNat : Int) = 97)) = true then
               (I64 c_8) ∧
               (((l_4'.length + 1) + (l_4'.length + 1) / 4 + 192) * 16 ≤ 281474976710656 ∧ l_4'.length + 1 ≤ 9223372036854775807) ∧
               Inv (it_1_1' + 1) (l_4' ++ [Lib.itoa c_8]) ∧ mu (it_1_1' + 1) (l_4' ++ [Lib.itoa c_8]) < mu it_1_1' l_4'
              else
               (if (decide (((((b6 c_0).2.1).getD it_1_1'.toNat 0).toNat : Int) = 100)) = true then
                (I64 c_9) ∧
                (((l_4'.length + 1) + (l_4'.length + 1) / 4 + 192) * 16 ≤ 281474976710656 ∧ l_4'.length + 1 ≤ 9223372036854775807) ∧
                Inv (it_1_1' + 1) (l_4' ++ [Lib.itoa c_9]) ∧ mu (it_1_1' + 1) (l_4' ++ [Lib.itoa c_9]) < mu it_1_1' l_4'
               else
                Inv (it_1_1' + 1) l_4' ∧ mu (it_1_1' + 1) l_4' < mu it_1_1' l_4'))))))
         else
          K l_4')) ∧
      (if (decide (0 ≤ Lib.indexByte ((b6 c_0).2.2) 99)) = true then
       (I64 c_7) ∧
       (((l_1'.length + 2) + (l_1'.length + 2) / 4 + 192) * 16 ≤ 281474976710656 ∧ l_1'.length + 2 ≤ 9223372036854775807) ∧
       J0_2' (l_1' ++ [([45, 99] : List UInt8), Lib.itoa c_7])
      else
       J0_2' l_1')) ∧
    (if (decide (0 ≤ Lib.indexByte ((b6 c_0).2.2) 110)) = true then
     (I64 c_6) ∧
     (((l.length + 2) + (l.length + 2) / 4 + 192) * 16 ≤ 281474976710656 ∧ l.length + 2 ≤ 9223372036854775807) ∧
     J0_1' (l ++ [([45, 110] : List UInt8), Lib.itoa c_6])
    else
     J0_1' l)) ∧
  (if (!decide (c_4 = [])) = true then
   ((([c_0, ([45, 98] : List UInt8), Lib.itoa c_5].length + 2) + ([c_0, ([45, 98] : List UInt8), Lib.itoa c_5].length + 2) / 4 + 192) * 16 ≤ 281474976710656 ∧ [c_0, ([45, 98] : List UInt8), Lib.itoa c_5].length + 2 ≤ 9223372036854775807) ∧
   J0 ([c_0, ([45, 98] : List UInt8), Lib.itoa c_5] ++ [([45, 111] : List UInt8), c_4])
  else
   J0 [c_0, ([45, 98] : List UInt8), Lib.itoa c_5])
theorem alr (te : TypeId) (fre : Nat × Nat) (te2 : TypeId) (fre2 : Nat × Nat) (c_0 : List UInt8) (c_1 : List UInt8) (c_2 : List UInt8) (c_3 : List UInt8) (c_4 : List UInt8) (c_5 : Int) (c_6 : Int) (c_7 : Int) (c_8 : Int) (c_9 : Int) (c_10 : List UInt8) (K : (List (List UInt8)) → Prop) (h : afy c_0 c_1 c_2 c_3 c_4 c_5 c_6 c_7 c_8 c_9 c_10 K) :
  i7 Tryd.prog 5 [Value.agg [st c_0, st c_1, st c_2, st c_3, st c_4, zI c_5, zI c_6, zI c_7, zI c_8, zI c_9, st c_10].toArray] [(4, .cells [st ([99, 104, 101, 99, 107] : List UInt8), st ([108] : List UInt8), st ([98] : List UInt8), st ([99, 111, 100, 101] : List UInt8), st ([108] : List UInt8), st ([98] : List UInt8), st ([119, 111, 114, 100, 115] : List UInt8), st ([108] : List UInt8), st ([98, 110] : List UInt8), st ([103, 101, 116] : List UInt8), st ([108, 115] : List UInt8), st ([98, 111] : List UInt8), st ([99, 97, 110, 111, 110] : List UInt8), st ([108, 115] : List UInt8), st ([98, 111] : List UInt8), st ([119, 104, 101, 114, 101] : List UInt8), st ([108, 115] : List UInt8), st ([98] : List UInt8), st ([115, 116, 114, 101, 97, 109] : List UInt8), st ([108, 115] : List UInt8), st ([98, 99] : List UInt8), st ([99, 114, 101, 97, 116, 101] : List UInt8), st ([108, 118] : List UInt8), st ([98, 111] : List UInt8), st ([112, 117, 116] : List UInt8), st ([108, 118, 115] : List UInt8), st ([98, 111] : List UInt8), st ([101, 100, 105, 116] : List UInt8), st ([108, 115, 97, 100, 116] : List UInt8), st ([98, 111] : List UInt8)].toArray te fre), (6, .cells [Value.int .u64 1, Value.int .u64 10, Value.int .u64 100, Value.int .u64 1000, Value.int .u64 10000, Value.int .u64 100000, Value.int .u64 1000000, Value.int .u64 10000000, Value.int .u64 100000000, Value.int .u64 1000000000, Value.int .u64 10000000000, Value.int .u64 100000000000, Value.int .u64 1000000000000, Value.int .u64 10000000000000, Value.int .u64 100000000000000, Value.int .u64 1000000000000000, Value.int .u64 10000000000000000, Value.int .u64 100000000000000000, Value.int .u64 1000000000000000000, Value.int .u64 10000000000000000000].toArray te2 fre2)] [] (fun o => (∃ (w_30' : Value) (v : List (List UInt8)), K v ∧ o = .ret (w_30') [HA.row w_30' 9 1 v.length (v.flatMap m9)]) ∨ (False)) := by
 unfold afy at h
 refine d8 (n := 101) (L0 := [(0, Value.agg [st c_0, st c_1, st c_2, st c_3, st c_4, zI c_5, zI c_6, zI c_7, zI c_8, zI c_9, st c_10].toArray)]) Tryd.func5 rfl rfl rfl rfl (fun w0 M Q hE => ?_)
 refine a7 (fun _ hK => ?_)
 refine a6 ?_
 refine WL.make (MV.box (cs := [st c_0, st c_1, st c_2, st c_3, st c_4, zI c_5, zI c_6, zI c_7, zI c_8, zI c_9, st c_10]) rfl rfl) rfl rfl rfl (fun b => ?_)
 refine wA ?_
 refine WL.nilRow 9 1 m9 ?_
 refine WL.nil ?_
 refine kg (hK [(1, zP b)] _ ?_)
 refine a7 (fun _ hK_1' => ?_)
 refine t8 5 [] m5 (by kernel_rfl) rfl (fun T hT => ?_)
 refine fv (fun _ => OV.fieldAddr0 rfl w7) ?_
 refine fv (fun _ => OV.load rfl (At.own 1 rfl) rfl d3) ?_
 refine fv (fun _ => OV.fieldAddr0 rfl z8) ?_
 refine fv (fun _ => OV.load rfl (At.own 1 rfl) rfl d6) ?_
 obtain ⟨o, h⟩ := h
 refine FL.call aam (fun _ => rfl) (aak te2 fre2 c_5 o) ⟨.inr (List.mem_of_getElem? (i := 1) rfl), trivial⟩ rfl (fun _ => rfl) rfl ?_
 refine FL.weak (L' := fun γ => [(1, zP b), (9, st c_0), (12, st (Lib.itoa c_5))]) (fun γ => ⟨rfl, rfl, rfl, trivial⟩) (FL.nil (hT (fun γ => [(1, zP b), (9, st c_0), (12, st (Lib.itoa c_5))]) (fun γ => ?_)))
 refine WL.make (MV.buildSlice (cs := [st c_0, st ([45, 98] : List UInt8), st (Lib.itoa c_5)]) rfl g9 (by kernel_rfl)) rfl rfl rfl (fun b_1' => ?_)
 refine WL.asRow (f := m9) (ms := [c_0, ([45, 98] : List UInt8), Lib.itoa c_5]) 0 rfl rfl rfl l9 rfl ?_
 refine wA ?_
 refine WL.nil ?_
 refine kg (hK_1' [(1, zP b), (3, Value.slice (some ⟨b_1', 0, none⟩) 3 3)] _ ?_)
 obtain ⟨J0, hJ, h⟩ := h
 refine q7 (X := Value × (List (List UInt8))) (fun σ => J0 σ.2) (fun σ => [(1, zP b), (3, σ.1)]) (fun σ => [HA.row σ.1 9 1 σ.2.length (σ.2.flatMap m9), HA.blk b (.cells [st c_0, st c_1, st c_2, st c_3, st c_4, zI c_5, zI c_6, zI c_7, zI c_8, zI c_9, st c_10].toArray 24 (0, 0))]) ?_ (fun K0_3' hK_3' => ?_)
 ·rintro ⟨w_1', l⟩ hj
  replace h := hJ l hj
  show WC _ _ _ _ [(1, zP b), (3, w_1')] [HA.row w_1' 9 1 l.length (l.flatMap m9), HA.blk b (.cells [st c_0, st c_1, st c_2, st c_3, st c_4, zI c_5, zI c_6, zI c_7, zI c_8, zI c_9, st c_10].toArray 24 (0, 0))]
  refine a7 (fun _ hK_4' => ?_)
  refine a6 ?_
  refine wv (OV.fieldAddr0 rfl w7) ?_
  refine wv (OV.load rfl (At.own 1 rfl) rfl d3) ?_
  refine WL.call (A := []) afg rfl (afr te fre c_0) rfl ⟨.inr (List.mem_of_getElem? (i := 0) rfl), trivial⟩ rfl rfl ?_
  refine wm ?_
  refine wv (OV.extract 0 rfl rfl) ?_
  refine wv (OV.extract 1 rfl rfl) ?_
  refine WL.make (MV.alloc n0) rfl rfl rfl (fun b_3' => ?_)
  refine WL.storeW (vs := [st ((b6 c_0).1), st ((b6 c_0).2.1), st ((b6 c_0).2.2)]) 0 rfl rfl rfl rfl rfl m7 rfl rfl rfl ?_
  refine wA ?_
  refine WL.nil ?_
  refine kg (hK_4' [(1, zP b), (3, w_1'), (4, zP b_3')] _ ?_)
  obtain ⟨J0_1', hJ_1', h⟩ := h
  refine q7 (X := Value × (List (List UInt8))) (fun σ => J0_1' σ.2) (fun σ => [(1, zP b), (3, σ.1), (4, zP b_3')]) (fun σ => [HA.blk b_3' (.cells [st ((b6 c_0).1), st ((b6 c_0).2.1), st ((b6 c_0).2.2)].toArray 49 (0, 0)), HA.row σ.1 9 1 σ.2.length (σ.2.flatMap m9), HA.blk b (.cells [st c_0, st c_1, st c_2, st c_3, st c_4, zI c_5, zI c_6, zI c_7, zI c_8, zI c_9, st c_10].toArray 24 (0, 0))]) ?_ (fun K0_6' hK_6' => ?_)
  ·rintro ⟨w_3', l_1'⟩ hj
   replace h := hJ_1' l_1' hj
   show WC _ _ _ _ [(1, zP b), (3, w_3'), (4, zP b_3')] [HA.blk b_3' (.cells [st ((b6 c_0).1), st ((b6 c_0).2.1), st ((b6 c_0).2.2)].toArray 49 (0, 0)), HA.row w_3' 9 1 l_1'.length (l_1'.flatMap m9), HA.blk b (.cells [st c_0, st c_1, st c_2, st c_3, st c_4, zI c_5, zI c_6, zI c_7, zI c_8, zI c_9, st c_10].toArray 24 (0, 0))]
   obtain ⟨J0_2', hJ_2', h⟩ := h
   refine q7 (X := Value × (List (List UInt8))) (fun σ => J0_2' σ.2) (fun σ => [(1, zP b), (3, σ.1), (4, zP b_3')]) (fun σ => [HA.blk b_3' (.cells [st ((b6 c_0).1), st ((b6 c_0).2.1), st ((b6 c_0).2.2)].toArray 49 (0, 0)), HA.row σ.1 9 1 σ.2.length (σ.2.flatMap m9), HA.blk b (.cells [st c_0, st c_1, st c_2, st c_3, st c_4, zI c_5, zI c_6, zI c_7, zI c_8, zI c_9, st c_10].toArray 24 (0, 0))]) ?_ (fun K0_8' hK_8' => ?_)
   ·rintro ⟨w_5', l_2'⟩ hj
    replace h := hJ_2' l_2' hj
    show WC _ _ _ _ [(1, zP b), (3, w_5'), (4, zP b_3')] [HA.blk b_3' (.cells [st ((b6 c_0).1), st ((b6 c_0).2.1), st ((b6 c_0).2.2)].toArray 49 (0, 0)), HA.row w_5' 9 1 l_2'.length (l_2'.flatMap m9), HA.blk b (.cells [st c_0, st c_1, st c_2, st c_3, st c_4, zI c_5, zI c_6, zI c_7, zI c_8, zI c_9, st c_10].toArray 24 (0, 0))]
    refine a7 (fun _ hK_9' => ?_)
    refine a6 ?_
    refine wm ?_
    refine WL.make (MV.buildSlice (cs := [st ([45, 45] : List UInt8)]) rfl g9 (by kernel_rfl)) rfl rfl rfl (fun b_6' => ?_)
    obtain ⟨o_6', h⟩ := h
    refine WL.append (f := m9) (ms := [([45, 45] : List UInt8)]) 2 0 rfl rfl rfl rfl rfl rfl l9 (by decide) rfl g9 p6 rfl o_6' rfl rfl (fun w_6' => ?_)
    refine wA ?_
    refine WL.nil ?_
    refine kg (hK_9' [(1, zP b), (3, w_6'), (4, zP b_3')] _ ?_)
    refine a7 (fun _ hK_10' => ?_)
    refine a7 (fun _ hK_11' => ?_)
    refine a6 ?_
    refine wv (OV.fieldAddr0 rfl u3) ?_
    refine wv (OV.load rfl (At.own 1 rfl) rfl d3) ?_
    refine WL.make (MV.rangeS (l := (b6 c_0).2.1) rfl d5) rfl rfl rfl (fun b_7' => ?_)
    refine WL.nil ?_
    refine kg (hK_11' [(1, zP b), (3, w_6'), (51, zP b_7')] _ ?_)
    refine d7 ?_
    refine WC.pick (H' := [HA.blk b_7' (Obj.stringIter ⟨((b6 c_0).2.1).toArray⟩ (0 : Int).toNat), HA.row w_6' 9 1 (l_2' ++ [([45, 45] : List UInt8)]).length ((l_2' ++ [([45, 45] : List UInt8)]).flatMap m9), HA.blk b (.cells [st c_0, st c_1, st c_2, st c_3, st c_4, zI c_5, zI c_6, zI c_7, zI c_8, zI c_9, st c_10].toArray 24 (0, 0))]) [0, 3, 4] rfl rfl ?_
    obtain ⟨Inv, mu, h0, hr⟩ := h
    refine abh (S := Int × Value × (List (List UInt8))) (fun σ => Inv σ.1 σ.2.2) (fun σ => mu σ.1 σ.2.2) (fun σ => [(1, zP b), (3, σ.2.1), (51, zP b_7')]) (fun σ => [HA.blk b_7' (Obj.stringIter ⟨((b6 c_0).2.1).toArray⟩ σ.1.toNat), HA.row σ.2.1 9 1 σ.2.2.length (σ.2.2.flatMap m9), HA.blk b (.cells [st c_0, st c_1, st c_2, st c_3, st c_4, zI c_5, zI c_6, zI c_7, zI c_8, zI c_9, st c_10].toArray 24 (0, 0))]) (0, w_6', l_2' ++ [([45, 45] : List UInt8)]) h0 ⟨rfl, rfl, rfl, trivial⟩ rfl ?_
    rintro ⟨it_1_1', w_20', l_4'⟩ hi K0_34' hK_34'
    have h := hr it_1_1' l_4' hi
    show WC _ _ _ _ [(1, zP b), (3, w_20'), (51, zP b_7')] [HA.blk b_7' (Obj.stringIter ⟨((b6 c_0).2.1).toArray⟩ it_1_1'.toNat), HA.row w_20' 9 1 l_4'.length (l_4'.flatMap m9), HA.blk b (.cells [st c_0, st c_1, st c_2, st c_3, st c_4, zI c_5, zI c_6, zI c_7, zI c_8, zI c_9, st c_10].toArray 24 (0, 0))]
    refine a7 (fun _ hK_35' => ?_)
    refine a6 ?_
    obtain ⟨o_25', h⟩ := h
    rcases Bool.eq_false_or_eq_true (decide (it_1_1' < (((b6 c_0).2.1).length : Int))) with hb | hb
    ·replace h := k9 h hb
     refine WL.nextT 0 rfl rfl o_25' hb rfl rfl ?_
     refine wv (OV.extract 0 rfl rfl) ?_
     refine WL.nil ?_
     refine kg (hK_35' [(1, zP b), (3, w_20'), (51, zP b_7'), (52, Value.tuple #[zB true, zI it_1_1', Value.int .i32 ((((b6 c_0).2.1).getD it_1_1'.toNat 0).toNat : Int)]), (53, zB true)] _ ?_)
     refine a7 (fun _ hK_36' => ?_)
     refine j2 rfl ?_
     refine b8 ?_
     refine kg (hK_36' [(1, zP b), (3, w_20'), (51, zP b_7'), (52, Value.tuple #[zB true, zI it_1_1', Value.int .i32 ((((b6 c_0).2.1).getD it_1_1'.toNat 0).toNat : Int)])] _ ?_)
     refine d7 ?_
     refine a7 (fun _ hK_37' => ?_)
     refine a6 ?_
     refine wv (OV.extract 2 rfl rfl) ?_
     refine wA ?_
     refine WL.nil ?_
     refine kg (hK_37' [(1, zP b), (3, w_20'), (7, Value.int .i32 ((((b6 c_0).2.1).getD it_1_1'.toNat 0).toNat : Int)), (51, zP b_7')] _ ?_)
     refine a7 (fun _ hK_38' => ?_)
     refine a6 ?_
     refine wm ?_
     refine WL.nil ?_
     refine kg (hK_38' [(1, zP b), (3, w_20'), (51, zP b_7'), (55, Value.int .i32 ((((b6 c_0).2.1).getD it_1_1'.toNat 0).toNat : Int))] _ ?_)
     refine d7 ?_
     refine a7 (fun _ hK_39' => ?_)
     refine a6 ?_
     refine wv (OV.eql rfl rfl) ?_
     refine wA ?_
     refine WL.nil ?_
     refine kg (hK_39' [(1, zP b), (3, w_20'), (51, zP b_7'), (55, Value.int .i32 ((((b6 c_0).2.1).getD it_1_1'.toNat 0).toNat : Int)), (56, zB (decide (((((b6 c_0).2.1).getD it_1_1'.toNat 0).toNat : Int) = 108)))] _ ?_)
     refine d4 (b := decide (((((b6 c_0).2.1).getD it_1_1'.toNat 0).toNat : Int) = 108)) rfl (fun hb => ?_) (fun hb => ?_)
     ·replace h := k9 h hb
      refine a6 ?_
      refine wm ?_
      refine wv (OV.fieldAddr0 rfl m8) ?_
      refine wv (OV.load rfl (At.own 2 rfl) rfl d3) ?_
      refine WL.make (MV.buildSlice (cs := [st c_1]) rfl g9 (by kernel_rfl)) rfl rfl rfl (fun b_20' => ?_)
      obtain ⟨o_26', h⟩ := h
      refine WL.append (f := m9) (ms := [c_1]) 2 0 rfl rfl rfl rfl rfl rfl l9 (by decide) rfl g9 p6 rfl o_26' rfl rfl (fun w_21' => ?_)
      refine wA ?_
      refine WL.nil ?_
      exact kh (hK_34' (it_1_1' + 1, w_21', l_4' ++ [c_1]) h.1 h.2) [1, 2, 3]
     ·replace h := l6 h hb
      refine a7 (fun _ hK_40' => ?_)
      refine a6 ?_
      refine wv (OV.eql rfl rfl) ?_
      refine wA ?_
      refine WL.nil ?_
      refine kg (hK_40' [(1, zP b), (3, w_20'), (51, zP b_7'), (55, Value.int .i32 ((((b6 c_0).2.1).getD it_1_1'.toNat 0).toNat : Int)), (63, zB (decide (((((b6 c_0).2.1).getD it_1_1'.toNat 0).toNat : Int) = 118)))] _ ?_)
      refine d4 (b := decide (((((b6 c_0).2.1).getD it_1_1'.toNat 0).toNat : Int) = 118)) rfl (fun hb => ?_) (fun hb => ?_)
      ·replace h := k9 h hb
       refine a6 ?_
       refine wm ?_
       refine wv (OV.fieldAddr0 rfl ab1) ?_
       refine wv (OV.load rfl (At.own 2 rfl) rfl d3) ?_
       refine WL.make (MV.buildSlice (cs := [st c_2]) rfl g9 (by kernel_rfl)) rfl rfl rfl (fun b_21' => ?_)
       obtain ⟨o_27', h⟩ := h
       refine WL.append (f := m9) (ms := [c_2]) 2 0 rfl rfl rfl rfl rfl rfl l9 (by decide) rfl g9 p6 rfl o_27' rfl rfl (fun w_22' => ?_)
       refine wA ?_
       refine WL.nil ?_
       exact kh (hK_34' (it_1_1' + 1, w_22', l_4' ++ [c_2]) h.1 h.2) [1, 2, 3]
      ·replace h := l6 h hb
       refine a7 (fun _ hK_41' => ?_)
       refine a6 ?_
       refine wv (OV.eql rfl rfl) ?_
       refine wA ?_
       refine WL.nil ?_
       refine kg (hK_41' [(1, zP b), (3, w_20'), (51, zP b_7'), (55, Value.int .i32 ((((b6 c_0).2.1).getD it_1_1'.toNat 0).toNat : Int)), (70, zB (decide (((((b6 c_0).2.1).getD it_1_1'.toNat 0).toNat : Int) = 115)))] _ ?_)
       refine d4 (b := decide (((((b6 c_0).2.1).getD it_1_1'.toNat 0).toNat : Int) = 115)) rfl (fun hb => ?_) (fun hb => ?_)
       ·replace h := k9 h hb
        refine a6 ?_
        refine wm ?_
        refine wv (OV.fieldAddr0 rfl aag) ?_
        refine wv (OV.load rfl (At.own 2 rfl) rfl d3) ?_
        refine WL.make (MV.buildSlice (cs := [st c_3]) rfl g9 (by kernel_rfl)) rfl rfl rfl (fun b_22' => ?_)
        obtain ⟨o_28', h⟩ := h
        refine WL.append (f := m9) (ms := [c_3]) 2 0 rfl rfl rfl rfl rfl rfl l9 (by decide) rfl g9 p6 rfl o_28' rfl rfl (fun w_23' => ?_)
        refine wA ?_
        refine WL.nil ?_
        exact kh (hK_34' (it_1_1' + 1, w_23', l_4' ++ [c_3]) h.1 h.2) [1, 2, 3]
       ·replace h := l6 h hb
        refine a7 (fun _ hK_42' => ?_)
        refine a6 ?_
        refine wv (OV.eql rfl rfl) ?_
        refine wA ?_
        refine WL.nil ?_
        refine kg (hK_42' [(1, zP b), (3, w_20'), (51, zP b_7'), (55, Value.int .i32 ((((b6 c_0).2.1).getD it_1_1'.toNat 0).toNat : Int)), (77, zB (decide (((((b6 c_0).2.1).getD it_1_1'.toNat 0).toNat : Int) = 116)))] _ ?_)
        refine d4 (b := decide (((((b6 c_0).2.1).getD it_1_1'.toNat 0).toNat : Int) = 116)) rfl (fun hb => ?_) (fun hb => ?_)
        ·replace h := k9 h hb
         refine a6 ?_
         refine wm ?_
         refine wv (OV.fieldAddr0 rfl abf) ?_
         refine wv (OV.load rfl (At.own 2 rfl) rfl d3) ?_
         refine WL.make (MV.buildSlice (cs := [st c_10]) rfl g9 (by kernel_rfl)) rfl rfl rfl (fun b_23' => ?_)
         obtain ⟨o_29', h⟩ := h
         refine WL.append (f := m9) (ms := [c_10]) 2 0 rfl rfl rfl rfl rfl rfl l9 (by decide) rfl g9 p6 rfl o_29' rfl rfl (fun w_24' => ?_)
         refine wA ?_
         refine WL.nil ?_
         exact kh (hK_34' (it_1_1' + 1, w_24', l_4' ++ [c_10]) h.1 h.2) [1, 2, 3]
        ·replace h := l6 h hb
         refine a7 (fun _ hK_43' => ?_)
         refine a6 ?_
         refine wv (OV.eql rfl rfl) ?_
         refine wA ?_
         refine WL.nil ?_
         refine kg (hK_43' [(1, zP b), (3, w_20'), (51, zP b_7'), (55, Value.int .i32 ((((b6 c_0).2.1).getD it_1_1'.toNat 0).toNat : Int)), (84, zB (decide (((((b6 c_0).2.1).getD it_1_1'.toNat 0).toNat : Int) = 97)))] _ ?_)
         refine d4 (b := decide (((((b6 c_0).2.1).getD it_1_1'.toNat 0).toNat : Int) = 97)) rfl (fun hb => ?_) (fun hb => ?_)
         ·replace h := k9 h hb
          refine a6 ?_
          refine wm ?_
          refine wv (OV.fieldAddr0 rfl aby) ?_
          refine wv (OV.load rfl (At.own 2 rfl) rfl d6) ?_
          obtain ⟨o_30', h⟩ := h
          refine WL.call (A := []) aam rfl (aak te2 fre2 c_8 o_30') rfl ⟨.inr (List.mem_of_getElem? (i := 1) rfl), trivial⟩ rfl rfl ?_
          refine WL.make (MV.buildSlice (cs := [st (Lib.itoa c_8)]) rfl g9 (by kernel_rfl)) rfl rfl rfl (fun b_24' => ?_)
          obtain ⟨o_31', h⟩ := h
          refine WL.append (f := m9) (ms := [Lib.itoa c_8]) 2 0 rfl rfl rfl rfl rfl rfl l9 (by decide) rfl g9 p6 rfl o_31' rfl rfl (fun w_25' => ?_)
          refine wA ?_
          refine WL.nil ?_
          exact kh (hK_34' (it_1_1' + 1, w_25', l_4' ++ [Lib.itoa c_8]) h.1 h.2) [1, 2, 3]
         ·replace h := l6 h hb
          refine a7 (fun _ hK_44' => ?_)
          refine a6 ?_
          refine wv (OV.eql rfl rfl) ?_
          refine wA ?_
          refine WL.nil ?_
          refine kg (hK_44' [(1, zP b), (3, w_20'), (51, zP b_7'), (92, zB (decide (((((b6 c_0).2.1).getD it_1_1'.toNat 0).toNat : Int) = 100)))] _ ?_)
          refine d4 (b := decide (((((b6 c_0).2.1).getD it_1_1'.toNat 0).toNat : Int) = 100)) rfl (fun hb => ?_) (fun hb => ?_)
          ·replace h := k9 h hb
           refine a6 ?_
           refine wm ?_
           refine wv (OV.fieldAddr0 rfl abv) ?_
           refine wv (OV.load rfl (At.own 2 rfl) rfl d6) ?_
           obtain ⟨o_32', h⟩ := h
           refine WL.call (A := []) aam rfl (aak te2 fre2 c_9 o_32') rfl ⟨.inr (List.mem_of_getElem? (i := 1) rfl), trivial⟩ rfl rfl ?_
           refine WL.make (MV.buildSlice (cs := [st (Lib.itoa c_9)]) rfl g9 (by kernel_rfl)) rfl rfl rfl (fun b_25' => ?_)
           obtain ⟨o_33', h⟩ := h
           refine WL.append (f := m9) (ms := [Lib.itoa c_9]) 2 0 rfl rfl rfl rfl rfl rfl l9 (by decide) rfl g9 p6 rfl o_33' rfl rfl (fun w_26' => ?_)
           refine wA ?_
           refine WL.nil ?_
           exact kh (hK_34' (it_1_1' + 1, w_26', l_4' ++ [Lib.itoa c_9]) h.1 h.2) [1, 2, 3]
          ·replace h := l6 h hb
           refine b8 ?_
           exact kh (hK_34' (it_1_1' + 1, w_20', l_4') h.1 h.2) [0, 1, 2]
    ·replace h := l6 h hb
     refine WL.nextF 0 rfl rfl o_25' hb rfl rfl ?_
     refine wv (OV.extract 0 rfl rfl) ?_
     refine WL.nil ?_
     refine kg (hK_35' [(1, zP b), (3, w_20'), (51, zP b_7'), (52, Value.tuple #[zB false]), (53, zB false)] _ ?_)
     refine a7 (fun _ hK_45' => ?_)
     refine j1 rfl ?_
     refine u7 ?_
     refine kg (hK_10' [(3, w_20')] _ ?_)
     refine a7 (fun _ hK_46' => ?_)
     refine a6 ?_
     refine wm ?_
     refine wA ?_
     refine WL.nil ?_
     refine kg (hK_46' [(2, w_20')] _ ?_)
     refine e7 ?_
     exact hE.ret [1] rfl rfl (.inl ⟨_, _, h, rfl⟩) (j6.of1 rfl (RV.tmp rfl))
   ·skip
    refine a7 (fun _ hK_47' => ?_)
    refine a6 ?_
    refine wv (OV.fieldAddr0 rfl aad) ?_
    refine wv (OV.load rfl (At.own 0 rfl) rfl d3) ?_
    refine WL.call (A := []) afa rfl (afm ((b6 c_0).2.2) 99) rfl trivial rfl rfl ?_
    refine WL.nil ?_
    refine kg (hK_47' [(1, zP b), (3, w_3'), (4, zP b_3'), (39, zB (decide (0 ≤ Lib.indexByte ((b6 c_0).2.2) 99)))] _ ?_)
    refine d4 (b := decide (0 ≤ Lib.indexByte ((b6 c_0).2.2) 99)) rfl (fun hb => ?_) (fun hb => ?_)
    ·replace h := k9 h hb
     refine a6 ?_
     refine wm ?_
     refine wv (OV.fieldAddr0 rfl aaf) ?_
     refine wv (OV.load rfl (At.own 2 rfl) rfl d6) ?_
     obtain ⟨o_34', h⟩ := h
     refine WL.call (A := []) aam rfl (aak te2 fre2 c_7 o_34') rfl ⟨.inr (List.mem_of_getElem? (i := 1) rfl), trivial⟩ rfl rfl ?_
     refine WL.make (MV.buildSlice (cs := [st ([45, 99] : List UInt8), st (Lib.itoa c_7)]) rfl g9 (by kernel_rfl)) rfl rfl rfl (fun b_26' => ?_)
     obtain ⟨o_35', h⟩ := h
     refine WL.append (f := m9) (ms := [([45, 99] : List UInt8), Lib.itoa c_7]) 2 0 rfl rfl rfl rfl rfl rfl l9 (by decide) rfl g9 p6 rfl o_35' rfl rfl (fun w_27' => ?_)
     refine wA ?_
     refine WL.nil ?_
     exact kh (hK_8' (w_27', l_1' ++ [([45, 99] : List UInt8), Lib.itoa c_7]) h) [1, 2, 3]
    ·replace h := l6 h hb
     refine b8 ?_
     exact kh (hK_8' (w_3', l_1') h) [0, 1, 2]
  ·skip
   refine a7 (fun _ hK_48' => ?_)
   refine a6 ?_
   refine wv (OV.fieldAddr0 rfl aad) ?_
   refine wv (OV.load rfl (At.own 0 rfl) rfl d3) ?_
   refine WL.call (A := []) afa rfl (afm ((b6 c_0).2.2) 110) rfl trivial rfl rfl ?_
   refine WL.nil ?_
   refine kg (hK_48' [(1, zP b), (3, w_1'), (4, zP b_3'), (30, zB (decide (0 ≤ Lib.indexByte ((b6 c_0).2.2) 110)))] _ ?_)
   refine d4 (b := decide (0 ≤ Lib.indexByte ((b6 c_0).2.2) 110)) rfl (fun hb => ?_) (fun hb => ?_)
   ·replace h := k9 h hb
    refine a6 ?_
    refine wm ?_
    refine wv (OV.fieldAddr0 rfl aaa) ?_
    refine wv (OV.load rfl (At.own 2 rfl) rfl d6) ?_
    obtain ⟨o_36', h⟩ := h
    refine WL.call (A := []) aam rfl (aak te2 fre2 c_6 o_36') rfl ⟨.inr (List.mem_of_getElem? (i := 1) rfl), trivial⟩ rfl rfl ?_
    refine WL.make (MV.buildSlice (cs := [st ([45, 110] : List UInt8), st (Lib.itoa c_6)]) rfl g9 (by kernel_rfl)) rfl rfl rfl (fun b_27' => ?_)
    obtain ⟨o_37', h⟩ := h
    refine WL.append (f := m9) (ms := [([45, 110] : List UInt8), Lib.itoa c_6]) 2 0 rfl rfl rfl rfl rfl rfl l9 (by decide) rfl g9 p6 rfl o_37' rfl rfl (fun w_28' => ?_)
    refine wA ?_
    refine WL.nil ?_
    exact kh (hK_6' (w_28', l ++ [([45, 110] : List UInt8), Lib.itoa c_6]) h) [1, 2, 3]
   ·replace h := l6 h hb
    refine b8 ?_
    exact kh (hK_6' (w_1', l) h) [0, 1, 2]
 ·skip
  refine a7 (fun _ hK_49' => ?_)
  refine a6 ?_
  refine wv (OV.fieldAddr0 rfl aae) ?_
  refine wv (OV.load rfl (At.own 2 rfl) rfl d3) ?_
  refine wv (OV.neqS rfl rfl) ?_
  refine WL.nil ?_
  refine kg (hK_49' [(1, zP b), (3, Value.slice (some ⟨b_1', 0, none⟩) 3 3), (16, zB (!decide (c_4 = [])))] _ ?_)
  refine d4 (b := !decide (c_4 = [])) rfl (fun hb => ?_) (fun hb => ?_)
  ·replace h := k9 h hb
   refine a6 ?_
   refine wm ?_
   refine wv (OV.fieldAddr0 rfl aae) ?_
   refine wv (OV.load rfl (At.own 2 rfl) rfl d3) ?_
   refine WL.make (MV.buildSlice (cs := [st ([45, 111] : List UInt8), st c_4]) rfl g9 (by kernel_rfl)) rfl rfl rfl (fun b_28' => ?_)
   obtain ⟨o_38', h⟩ := h
   refine WL.append (f := m9) (ms := [([45, 111] : List UInt8), c_4]) 1 0 rfl rfl rfl rfl rfl rfl l9 (by decide) rfl g9 p6 rfl o_38' rfl rfl (fun w_29' => ?_)
   refine wA ?_
   refine WL.nil ?_
   exact kh (hK_3' (w_29', [c_0, ([45, 98] : List UInt8), Lib.itoa c_5] ++ [([45, 111] : List UInt8), c_4]) h) [1, 3]
  ·replace h := l6 h hb
   refine b8 ?_
   exact kh (hK_3' (Value.slice (some ⟨b_1', 0, none⟩) 3 3, [c_0, ([45, 98] : List UInt8), Lib.itoa c_5]) h) [0, 2]
def aca : CmT → UInt8 → List Bs
 | (_, le, vi, so, _, _, _, _, a, d, te), l => if l = 108 then [le] else if l = 118 then [vi] else if l = 115 then [so] else if l = 116 then [te] else if l = 97 then [Lib.itoa a] else if l = 100 then [Lib.itoa d] else []
def ae4 : CmT → List Bs
 | (nm, _, _, _, ou, bu, _, _, _, _, _) => [nm, [45, 98], Lib.itoa bu] ++ (if ou = [] then [] else [[45, 111], ou])
def afk : CmT → List Bs
 | (nm, le, vi, so, ou, bu, co, ch, a, d, te) => ae4 (nm, le, vi, so, ou, bu, co, ch, a, d, te) ++ (if 0 ≤ Lib.indexByte (b6 nm).2.2 110 then [[45, 110], Lib.itoa co] else [])
def ahc : CmT → List Bs
 | (nm, le, vi, so, ou, bu, co, ch, a, d, te) => afk (nm, le, vi, so, ou, bu, co, ch, a, d, te) ++ (if 0 ≤ Lib.indexByte (b6 nm).2.2 99 then [[45, 99], Lib.itoa ch] else [])
section
variable (nm le vi so ou te : Bs) (bu co ch a d : Int)
theorem af9 (l : UInt8) : aca (nm, le, vi, so, ou, bu, co, ch, a, d, te) l = if l = 108 then [le] else if l = 118 then [vi] else if l = 115 then [so] else if l = 116 then [te] else if l = 97 then [Lib.itoa a] else if l = 100 then [Lib.itoa d] else [] := rfl
theorem abc : ae4 (nm, le, vi, so, ou, bu, co, ch, a, d, te) = [nm, [45, 98], Lib.itoa bu] ++ (if ou = [] then [] else [[45, 111], ou]) := rfl
theorem abe : afk (nm, le, vi, so, ou, bu, co, ch, a, d, te) = ae4 (nm, le, vi, so, ou, bu, co, ch, a, d, te) ++ (if 0 ≤ Lib.indexByte (b6 nm).2.2 110 then [[45, 110], Lib.itoa co] else []) := rfl
theorem aa8 : ahc (nm, le, vi, so, ou, bu, co, ch, a, d, te) = afk (nm, le, vi, so, ou, bu, co, ch, a, d, te) ++ (if 0 ≤ Lib.indexByte (b6 nm).2.2 99 then [[45, 99], Lib.itoa ch] else []) := rfl
end
def b7 (c : CmT) : List Bs := (ahc c ++ [[45, 45]]) ++ (b6 c.1).2.1.flatMap (aca c)
def alu (c : CmT) : Prop := u6 c.1 = true ∧ I64 c.2.2.2.2.2.1 ∧ I64 c.2.2.2.2.2.2.1 ∧ I64 c.2.2.2.2.2.2.2.1 ∧ I64 c.2.2.2.2.2.2.2.2.1 ∧ I64 c.2.2.2.2.2.2.2.2.2.1
theorem aka (c : CmT) (l : UInt8) : (aca c l).length ≤ 1 := by
 obtain ⟨nm, le, vi, so, ou, bu, co, ch, a, d, te⟩ := c
 rw [af9]
 (repeat' split) <;> simp
theorem aer (c : CmT) : ∀ l : Bs, (l.flatMap (aca c)).length ≤ l.length
 | [] => by simp
 | x :: r => by
  have := aer c r
  have := aka c x
  rw [List.flatMap_cons, List.length_append, List.length_cons]; omega
theorem acz (c : CmT) : (ae4 c).length ≤ 5 ∧ (afk c).length ≤ 7 ∧ (ahc c).length ≤ 9 := by
 obtain ⟨nm, le, vi, so, ou, bu, co, ch, a, d, te⟩ := c
 have h1 : (ae4 (nm, le, vi, so, ou, bu, co, ch, a, d, te)).length ≤ 5 := by rw [abc, List.length_append]; split <;> simp
 have h2 : (afk (nm, le, vi, so, ou, bu, co, ch, a, d, te)).length ≤ 7 := by rw [abe, List.length_append]; split <;> simp <;> omega
 refine ⟨h1, h2, ?_⟩
 rw [aa8, List.length_append]; split <;> simp <;> omega
theorem aa6 (nm : Bs) : (b6 nm).2.1.length ≤ 5 ∧ ∀ c ∈ (b6 nm).2.1, c.toNat < 128 := by
 unfold b6
 cases h : shapes.find? (fun s => decide (s.1 = nm)) with
 | none => exact ⟨by decide, fun c hc => by cases hc⟩
 | some s => exact (by decide : ∀ s ∈ shapes, s.2.1.length ≤ 5 ∧ ∀ c ∈ s.2.1, c.toNat < 128) s (List.mem_of_find?_eq_some h)
theorem ajr {ops : Bs} {k : Int} (h0 : 0 ≤ k) (h : k < (ops.length : Int)) : ops.take (k + 1).toNat = ops.take k.toNat ++ [ops.getD k.toNat 0] := by
 rw [show (k + 1).toNat = k.toNat + 1 by omega, List.take_add_one, List.getD_eq_getElem?_getD, List.getElem?_eq_getElem (by omega)]
 rfl
def ala (c : CmT) (k : Int) (l : List Bs) : Prop := 0 ≤ k ∧ k ≤ ((b6 c.1).2.1.length : Int) ∧ l = (ahc c ++ [[45, 45]]) ++ ((b6 c.1).2.1.take k.toNat).flatMap (aca c)
theorem akb {c : CmT} {k : Int} {l : List Bs} (h : ala c k l) : l.length ≤ 15 := by
 obtain ⟨h0, h1, rfl⟩ := h
 have := (acz c).2.2
 have := aer c ((b6 c.1).2.1.take k.toNat)
 have := (aa6 c.1).1
 rw [List.length_append, List.length_append]
 simp only [List.length_take, List.length_cons, List.length_nil] at *
 omega
theorem ai4 {c : CmT} {k : Int} {l : List Bs} (h : ala c k l) (hk : k < ((b6 c.1).2.1.length : Int)) : ala c (k + 1) (l ++ aca c ((b6 c.1).2.1.getD k.toNat 0)) := by
 obtain ⟨h0, h1, rfl⟩ := h
 refine ⟨by omega, by omega, ?_⟩
 rw [ajr h0 hk, List.flatMap_append, List.flatMap_singleton, List.append_assoc]
theorem ajw {c : CmT} {k : Int} {l : List Bs} (h : ala c k l) (hk : ¬ k < ((b6 c.1).2.1.length : Int)) : l = b7 c := by
 obtain ⟨h0, h1, rfl⟩ := h
 rw [List.take_of_length_le (by omega)]; rfl
theorem z7 {c : UInt8} {n : UInt8} : ((c.toNat : Nat) : Int) = ((n.toNat : Nat) : Int) ↔ c = n := ⟨fun h => UInt8.toNat_inj.1 (by exact_mod_cast h), fun h => by rw [h]⟩
theorem ajo (te : TypeId) (fre : Nat × Nat) (te2 : TypeId) (fre2 : Nat × Nat) (c : CmT) (hc : alu c) : i7 Tryd.prog 5 [.agg (cmL c).toArray] (adn te fre ++ [(6, .cells aan.toArray te2 fre2)]) []
  (fun o => ∃ w, o = .ret w [HA.row w 9 1 (b7 c).length ((b7 c).flatMap m9)]) := by
 obtain ⟨nm, le, vi, so, ou, bu, co, ch, a, d, te'⟩ := c
 refine (alr te fre te2 fre2 nm le vi so ou bu co ch a d te' (fun v => v = b7 (nm, le, vi, so, ou, bu, co, ch, a, d, te')) ?_).weak ?_
 ·obtain ⟨_, b1, b2, b3, b4, b5⟩ := hc
  generalize hC : (nm, le, vi, so, ou, bu, co, ch, a, d, te') = c
  have hl := acz c
  unfold afy
  refine ⟨b1, fun l => l = ae4 c, fun l h => ?_, ?_⟩
  ·subst h
   refine ⟨fun l => l = afk c, fun l h => ?_, ?_⟩
   ·subst h
    refine ⟨fun l => l = ahc c, fun l h => ?_, ?_⟩
    ·subst h
     refine ⟨⟨by omega, by omega⟩, ala c, fun k _ => ((b6 c.1).2.1.length - k).toNat, ⟨by omega, by omega, by rw [show (0 : Int).toNat = 0 from rfl, List.take_zero, List.flatMap_nil, List.append_nil]⟩, fun k l h => ?_⟩
     have hn : nm = c.1 := by rw [← hC]
     have hs := aa6 nm
     refine ⟨⟨h.1, hs.2⟩, ?_⟩
     have hlen := akb h
     by_cases hk : k < ((b6 nm).2.1.length : Int)
     ·rw [if_pos (decide_eq_true hk)]
      have hst := ai4 h (by rw [← hn]; exact hk)
      rw [← hn] at hst
      have hmu : ((b6 c.1).2.1.length - (k + 1)).toNat < ((b6 c.1).2.1.length - k).toNat := by rw [← hn]; omega
      simp only [decide_eq_true_eq]
      generalize (b6 nm).2.1.getD k.toNat 0 = x at hst ⊢
      rw [← hC] at hst
      rw [af9, hC] at hst
      have e1 : ((x.toNat : Nat) : Int) = 108 ↔ x = 108 := z7 (n := 108)
      have e2 : ((x.toNat : Nat) : Int) = 118 ↔ x = 118 := z7 (n := 118)
      have e3 : ((x.toNat : Nat) : Int) = 115 ↔ x = 115 := z7 (n := 115)
      have e4 : ((x.toNat : Nat) : Int) = 116 ↔ x = 116 := z7 (n := 116)
      have e5 : ((x.toNat : Nat) : Int) = 97 ↔ x = 97 := z7 (n := 97)
      have e6 : ((x.toNat : Nat) : Int) = 100 ↔ x = 100 := z7 (n := 100)
      simp only [e1, e2, e3, e4, e5, e6]
      by_cases g1 : x = 108
      ·rw [if_pos g1] at hst ⊢; exact ⟨⟨by omega, by omega⟩, hst, hmu⟩
      rw [if_neg g1] at hst ⊢
      by_cases g2 : x = 118
      ·rw [if_pos g2] at hst ⊢; exact ⟨⟨by omega, by omega⟩, hst, hmu⟩
      rw [if_neg g2] at hst ⊢
      by_cases g3 : x = 115
      ·rw [if_pos g3] at hst ⊢; exact ⟨⟨by omega, by omega⟩, hst, hmu⟩
      rw [if_neg g3] at hst ⊢
      by_cases g4 : x = 116
      ·rw [if_pos g4] at hst ⊢; exact ⟨⟨by omega, by omega⟩, hst, hmu⟩
      rw [if_neg g4] at hst ⊢
      by_cases g5 : x = 97
      ·rw [if_pos g5] at hst ⊢; exact ⟨b4, ⟨by omega, by omega⟩, hst, hmu⟩
      rw [if_neg g5] at hst ⊢
      by_cases g6 : x = 100
      ·rw [if_pos g6] at hst ⊢; exact ⟨b5, ⟨by omega, by omega⟩, hst, hmu⟩
      rw [if_neg g6, List.append_nil] at hst
      rw [if_neg g6]
      exact ⟨hst, hmu⟩
     ·rw [if_neg (by rw [decide_eq_true_eq]; exact hk)]
      exact ajw h (by rw [← hn]; exact hk)
    ·by_cases h : 0 ≤ Lib.indexByte (b6 nm).2.2 99
     ·rw [if_pos (decide_eq_true h)]
      exact ⟨b3, ⟨by omega, by omega⟩, by show _ = _; rw [← hC, aa8, if_pos h]⟩
     ·rw [if_neg (by rw [decide_eq_true_eq]; exact h)]
      show _ = _; rw [← hC, aa8, if_neg h, List.append_nil]
   ·by_cases h : 0 ≤ Lib.indexByte (b6 nm).2.2 110
    ·rw [if_pos (decide_eq_true h)]
     exact ⟨b2, ⟨by omega, by omega⟩, by show _ = _; rw [← hC, abe, if_pos h]⟩
    ·rw [if_neg (by rw [decide_eq_true_eq]; exact h)]
     show _ = _; rw [← hC, abe, if_neg h, List.append_nil]
  ·by_cases h : ou = []
   ·rw [if_neg (by simp [h])]
    show _ = _; rw [← hC, abc, if_pos h, List.append_nil]
   ·rw [if_pos (by simp [h])]
    exact ⟨⟨by simp, by simp⟩, by show _ = _; rw [← hC, abc, if_neg h]⟩
 ·rintro o (⟨w, v, rfl, rfl⟩ | h)
  ·exact ⟨w, rfl⟩
  ·cases h
theorem afs {nm : Bs} (h : u6 nm = true) : (0 ≤ Lib.indexByte (b6 nm).2.2 110 ↔ nm = [119, 111, 114, 100, 115]) ∧ (0 ≤ Lib.indexByte (b6 nm).2.2 99 ↔ nm = [115, 116, 114, 101, 97, 109]) := by
 obtain ⟨h1, h2⟩ := agb h
 have := (by decide : ∀ s ∈ shapes, (0 ≤ Lib.indexByte s.2.2 110 ↔ s.1 = [119, 111, 114, 100, 115]) ∧ (0 ≤ Lib.indexByte s.2.2 99 ↔ s.1 = [115, 116, 114, 101, 97, 109])) _ h1
 rw [h2] at this
 exact this
end Go.Proofs.YtgocbiiolmmonaaDoor
namespace Go.Proofs.YtgocbiiolmmonaaDoor
open Go Go.RowKit
theorem ant : ∀ n : Nat, Lib.decDigits n = adc n := by
 intro n
 induction n using Nat.strongRecOn with
 | _ n ih =>
  rw [Lib.decDigits, adc]
  split
  ·rename_i h
   first | rfl | (rw [Nat.mod_eq_of_lt h]; rfl) | rw [Nat.mod_eq_of_lt h]
  ·rename_i h
   rw [ih (n / 10) (by omega)]
theorem aa9 {n : Int} (h0 : 0 ≤ n) (h1 : n < 1000000000) : j5 (Lib.itoa n) = true ∧ g8 (Lib.itoa n) = n ∧ (Lib.itoa n).length ≤ 9 := by
 have e : Lib.itoa n = adc n.toNat := by
  unfold Lib.itoa
  rw [if_neg (by omega), ant]
 rw [e]
 obtain ⟨a, b, c⟩ := alw n.toNat
 have hl := ag7 8 n.toNat (by omega)
 have hB : j5 (adc n.toNat) = true := by
  unfold j5
  rw [a]
  simp [c]; omega
 refine ⟨hB, ?_, hl⟩
 unfold g8
 rw [if_pos hB]
 unfold adz
 rw [b]; omega
theorem aa1 {av A B : List Bs} {x : Bs} {i : Int} (h : av = A ++ x :: B) (hi : i = A.length) : e9 av i = x ∧ i < av.length := by
 subst h hi
 refine ⟨?_, by simp; omega⟩
 unfold e9
 rw [Int.toNat_natCast, List.getD_eq_getElem?_getD, List.getElem?_append_right (Nat.le_refl _), Nat.sub_self]; rfl
section
variable {av A B : List Bs} {f : Nat} {q q2 : PS} {sl : List Int} {v : Bs} {l : UInt8}
theorem anp (hA : av = A ++ [45, l] :: v :: B) (hq : q.at1 = A.length) (hl : l ∈ ([98, 110, 99, 111] : Bs)) (ho : ¬ ixB q.sopts ((l.toNat : Nat) : Int) < 0) (hs : sl.count ((l.toNat : Nat) : Int) = 0)
  (hset : u1 ((l.toNat : Nat) : Int) v { q with at1 := q.at1 + 1 } = (true, q2)) : goM av (f + 1) false q sl = goM av f false { q2 with at1 := q2.at1 + 1 } (((l.toNat : Nat) : Int) :: sl) := by
 obtain ⟨h1, h2⟩ := aa1 hA hq
 obtain ⟨h3, h4⟩ := aa1 (av := av) (A := A ++ [[45, l]]) (x := v) (B := B) (i := q.at1 + 1) (by rw [hA]; simp) (by rw [hq]; simp)
 have hne : ([45, l] : Bs) ≠ [45, 45] := by
  intro h
  have : l = 45 := (List.cons.inj (List.cons.inj h).2).1
  subst this
  revert hl; decide
 refine ane h2 (by rw [h1]; exact hne) (by rw [h1]; simp) (by rw [h1]; rfl) ?_
 rw [akk (x := l) (by rw [h1]; rfl) hl, if_neg ho, if_neg (by omega)]
 unfold adt
 rw [h1, if_pos (show ([45, l] : Bs).drop 2 = [] from rfl), if_neg (by omega)]
 simp only [h3]
 rw [hset]
 rfl
theorem ana (hA : av = A ++ [45, 45] :: B) (hq : q.at1 = A.length) : goM av (f + 1) false q sl = goM av f true { q with at1 := q.at1 + 1 } sl := by
 obtain ⟨h1, h2⟩ := aa1 hA hq
 exact aiy h2 rfl h1
theorem an0 (hA : av = A ++ v :: B) (hq : q.at1 = A.length) (hg : q.got ≠ q.sops.length) (hl : q.sops.getD q.got.toNat 0 = l) (hv : (l = 97 ∨ l = 100) → j5 v = true) :
  goM av (f + 1) true q sl = goM av f true { y8 ((l.toNat : Nat) : Int) v q with got := q.got + 1, at1 := q.at1 + 1 } sl := by
 obtain ⟨h1, h2⟩ := aa1 hA hq
 refine anb h2 (.inl rfl) ?_
 unfold ack
 rw [if_neg hg]
 simp only [hl, h1]
 rw [if_neg]
 rintro ⟨g1, g2⟩
 have : l = 97 ∨ l = 100 := g1.imp (z7 (n := 97)).1 (z7 (n := 100)).1
 rw [hv this] at g2; cases g2
end
structure Good (m : Nat) (nm : Bs) (q : PS) : Prop where
 name : q.name = nm
 sops : q.sops = (b6 nm).2.1
 sopts : q.sopts = (b6 nm).2.2
 out : q.out = [] ∨ 0 ≤ Lib.indexByte (b6 nm).2.2 111
 bud : 1 ≤ q.budget ∧ q.budget ≤ 4096
 cnt : 0 ≤ q.count ∧ q.count ≤ 100
 cnt0 : q.count = 0 ∨ 0 ≤ Lib.indexByte (b6 nm).2.2 110
 chk : 0 ≤ q.chunk ∧ q.chunk ≤ 16384
 chk0 : q.chunk = 0 ∨ 0 ≤ Lib.indexByte (b6 nm).2.2 99
 chk1 : 0 ≤ Lib.indexByte (b6 nm).2.2 99 → 1 ≤ q.chunk
 at0 : 0 ≤ q.at0 ∧ q.at0 < 1000000000
 del : 0 ≤ q.del ∧ q.del < 1000000000
 lens : q.lens = [] ∨ 108 ∈ (b6 nm).2.1
 view : q.view = [] ∨ 118 ∈ (b6 nm).2.1
 src : q.src = [] ∨ 115 ∈ (b6 nm).2.1
 text : q.text = [] ∨ 116 ∈ (b6 nm).2.1
 at9 : q.at0 = 0 ∨ 97 ∈ (b6 nm).2.1
 del9 : q.del = 0 ∨ 100 ∈ (b6 nm).2.1
 size : q.name.length ≤ m ∧ q.lens.length ≤ m ∧ q.view.length ≤ m ∧ q.src.length ≤ m ∧ q.out.length ≤ m ∧ q.text.length ≤ m
theorem Good.at {m : Nat} {nm : Bs} {q : PS} (h : Good m nm q) (i k : Int) : Good m nm { q with at1 := i, got := k } := ⟨h.name, h.sops, h.sopts, h.out, h.bud, h.cnt, h.cnt0, h.chk, h.chk0, h.chk1, h.at0, h.del, h.lens, h.view, h.src, h.text, h.at9, h.del9, h.size⟩
theorem akd (l : UInt8) : ((l.toNat : Nat) : Int).toNat.toUInt8 = l := by rw [Int.toNat_natCast]; exact UInt8.ofNat_toNat
theorem ak2 {m : Nat} {nm : Bs} {q q2 : PS} {l : UInt8} {v : Bs} (h : Good m nm q) (hl : l ∈ ([98, 110, 99, 111] : Bs)) (ho : ¬ ixB q.sopts ((l.toNat : Nat) : Int) < 0) (hv : v.length ≤ m) (hs : u1 ((l.toNat : Nat) : Int) v q = (true, q2)) : Good m nm q2 := by
 have ho' : 0 ≤ Lib.indexByte (b6 nm).2.2 l := by
  unfold ixB at ho
  rw [h.sopts, akd] at ho
  omega
 obtain ⟨z1, z2, z3, z4, z5, z6⟩ := h.size
 simp only [List.mem_cons, List.mem_nil_iff, or_false] at hl
 rcases hl with rfl | rfl | rfl | rfl
 ·obtain ⟨e1, rfl⟩ := Prod.mk.inj (show (((j5 v) && (decide (1 ≤ g8 v))) && (decide (g8 v ≤ 4096)), { q with budget := g8 v }) = (true, q2) from hs)
  simp only [Bool.and_eq_true, decide_eq_true_eq] at e1
  exact ⟨h.name, h.sops, h.sopts, h.out, ⟨e1.1.2, e1.2⟩, h.cnt, h.cnt0, h.chk, h.chk0, h.chk1, h.at0, h.del, h.lens, h.view, h.src, h.text, h.at9, h.del9, h.size⟩
 ·obtain ⟨e1, rfl⟩ := Prod.mk.inj (show (((j5 v) && (decide (0 ≤ g8 v))) && (decide (g8 v ≤ 100)), { q with count := g8 v }) = (true, q2) from hs)
  simp only [Bool.and_eq_true, decide_eq_true_eq] at e1
  exact ⟨h.name, h.sops, h.sopts, h.out, h.bud, ⟨e1.1.2, e1.2⟩, .inr ho', h.chk, h.chk0, h.chk1, h.at0, h.del, h.lens, h.view, h.src, h.text, h.at9, h.del9, h.size⟩
 ·obtain ⟨e1, rfl⟩ := Prod.mk.inj (show (((j5 v) && (decide (1 ≤ g8 v))) && (decide (g8 v ≤ 16384)), { q with chunk := g8 v }) = (true, q2) from hs)
  simp only [Bool.and_eq_true, decide_eq_true_eq] at e1
  have e2 := e1.1.2
  exact ⟨h.name, h.sops, h.sopts, h.out, h.bud, h.cnt, h.cnt0, ⟨by show 0 ≤ g8 v; omega, e1.2⟩, .inr ho', fun _ => e2, h.at0, h.del, h.lens, h.view, h.src, h.text, h.at9, h.del9, h.size⟩
 ·obtain ⟨e1, rfl⟩ := Prod.mk.inj (show (!decide (v = []), { q with out := v }) = (true, q2) from hs)
  exact ⟨h.name, h.sops, h.sopts, .inr ho', h.bud, h.cnt, h.cnt0, h.chk, h.chk0, h.chk1, h.at0, h.del, h.lens, h.view, h.src, h.text, h.at9, h.del9, ⟨z1, z2, z3, z4, hv, z6⟩⟩
theorem ak7 {m : Nat} {nm : Bs} {q : PS} {l : UInt8} {v : Bs} (h : Good m nm q) (hl : l ∈ (b6 nm).2.1) (hv : v.length ≤ m) : Good m nm (y8 ((l.toNat : Nat) : Int) v q) := by
 obtain ⟨z1, z2, z3, z4, z5, z6⟩ := h.size
 have hb := als v
 have e1 : ((l.toNat : Nat) : Int) = 108 ↔ l = 108 := z7 (n := 108)
 have e2 : ((l.toNat : Nat) : Int) = 118 ↔ l = 118 := z7 (n := 118)
 have e3 : ((l.toNat : Nat) : Int) = 115 ↔ l = 115 := z7 (n := 115)
 have e4 : ((l.toNat : Nat) : Int) = 116 ↔ l = 116 := z7 (n := 116)
 have e5 : ((l.toNat : Nat) : Int) = 97 ↔ l = 97 := z7 (n := 97)
 have e6 : ((l.toNat : Nat) : Int) = 100 ↔ l = 100 := z7 (n := 100)
 unfold y8
 simp only [e1, e2, e3, e4, e5, e6]
 by_cases g1 : l = 108
 ·rw [if_pos g1]; subst g1
  exact ⟨h.name, h.sops, h.sopts, h.out, h.bud, h.cnt, h.cnt0, h.chk, h.chk0, h.chk1, h.at0, h.del, .inr hl, h.view, h.src, h.text, h.at9, h.del9, ⟨z1, hv, z3, z4, z5, z6⟩⟩
 rw [if_neg g1]
 by_cases g2 : l = 118
 ·rw [if_pos g2]; subst g2
  exact ⟨h.name, h.sops, h.sopts, h.out, h.bud, h.cnt, h.cnt0, h.chk, h.chk0, h.chk1, h.at0, h.del, h.lens, .inr hl, h.src, h.text, h.at9, h.del9, ⟨z1, z2, hv, z4, z5, z6⟩⟩
 rw [if_neg g2]
 by_cases g3 : l = 115
 ·rw [if_pos g3]; subst g3
  exact ⟨h.name, h.sops, h.sopts, h.out, h.bud, h.cnt, h.cnt0, h.chk, h.chk0, h.chk1, h.at0, h.del, h.lens, h.view, .inr hl, h.text, h.at9, h.del9, ⟨z1, z2, z3, hv, z5, z6⟩⟩
 rw [if_neg g3]
 by_cases g4 : l = 116
 ·rw [if_pos g4]; subst g4
  exact ⟨h.name, h.sops, h.sopts, h.out, h.bud, h.cnt, h.cnt0, h.chk, h.chk0, h.chk1, h.at0, h.del, h.lens, h.view, h.src, .inr hl, h.at9, h.del9, ⟨z1, z2, z3, z4, z5, hv⟩⟩
 rw [if_neg g4]
 by_cases g5 : l = 97
 ·rw [if_pos g5]; subst g5
  exact ⟨h.name, h.sops, h.sopts, h.out, h.bud, h.cnt, h.cnt0, h.chk, h.chk0, h.chk1, hb, h.del, h.lens, h.view, h.src, h.text, .inr hl, h.del9, h.size⟩
 rw [if_neg g5]
 by_cases g6 : l = 100
 ·rw [if_pos g6]; subst g6
  exact ⟨h.name, h.sops, h.sopts, h.out, h.bud, h.cnt, h.cnt0, h.chk, h.chk0, h.chk1, h.at0, hb, h.lens, h.view, h.src, h.text, h.at9, .inr hl, h.size⟩
 rw [if_neg g6]
 exact h
theorem adh {m : Nat} {av : List Bs} (h : ∀ s ∈ av, s.length ≤ m) (i : Int) : (e9 av i).length ≤ m := by
 unfold e9
 rw [List.getD_eq_getElem?_getD]
 cases hq : av[i.toNat]? with
 | none => exact Nat.zero_le _
 | some s => exact h s (List.mem_of_getElem? hq)
theorem adf {m : Nat} {nm : Bs} {av : List Bs} (hm : ∀ s ∈ av, s.length ≤ m) : ∀ (f : Nat) (plain : Bool) (q : PS) (sl : List Int) (q2 : PS), Good m nm q → (0 ≤ q.got ∧ q.got ≤ q.sops.length) → goM av f plain q sl = .ok q2 → Good m nm q2 ∧ q2.got = q2.sops.length
 | 0, plain, q, sl, q2, h, hg, he => by
  rw [goM] at he
  by_cases hl : q.got < q.sops.length
  ·rw [if_pos hl] at he; cases he
  ·rw [if_neg hl] at he; cases he; exact ⟨h, by omega⟩
 | f + 1, plain, q, sl, q2, h, hg, he => by
  by_cases h1 : q.at1 < av.length
  ·by_cases h2 : plain = false ∧ e9 av q.at1 = [45, 45]
   ·rw [aiy h1 h2.1 h2.2] at he
    exact adf hm f true _ sl q2 (h.at (q.at1 + 1) q.got) hg he
   ·by_cases h3 : plain = false ∧ 1 < (e9 av q.at1).length ∧ ((e9 av q.at1).getD 0 0).toNat = 45
    ·rw [amw h1 h2 h3] at he
     by_cases h4 : (e9 av q.at1).getD 1 0 ∈ ([98, 110, 99, 111] : Bs)
     ·rw [akk rfl h4] at he
      by_cases h5 : ixB q.sopts ((((e9 av q.at1).getD 1 0).toNat : Nat) : Int) < 0
      ·rw [if_pos h5] at he; cases he
      rw [if_neg h5] at he
      by_cases h6 : 0 < sl.count ((((e9 av q.at1).getD 1 0).toNat : Nat) : Int)
      ·rw [if_pos h6] at he; cases he
      rw [if_neg h6] at he
      cases hv : adt av q with
      | error e => rw [hv] at he; cases he
      | ok vp =>
       obtain ⟨v, p⟩ := vp
       rw [hv] at he
       simp only at he
       have hvp : v.length ≤ m ∧ Good m nm p ∧ p.got = q.got ∧ p.sops = q.sops ∧ p.sopts = q.sopts := by
        unfold adt at hv
        split at hv
        ·split at hv
         ·cases hv
         ·cases hv
          exact ⟨adh hm _, h.at _ q.got, rfl, rfl, rfl⟩
        ·cases hv
         refine ⟨?_, h, rfl, rfl, rfl⟩
         have := adh hm q.at1
         rw [List.length_drop]; omega
       obtain ⟨v1, v2, v3, v4, v5⟩ := hvp
       cases hs : u1 ((((e9 av q.at1).getD 1 0).toNat : Nat) : Int) v p with
       | mk ok p2 =>
        rw [hs] at he
        cases ok with
        | false => rw [if_neg (by simp)] at he; cases he
        | true =>
         rw [if_pos rfl] at he
         have g := ak2 v2 h4 (by rw [v5]; exact h5) v1 hs
         have hsame : p2.got = p.got ∧ p2.sops = p.sops := by
          have hp : p2 = (u1 ((((e9 av q.at1).getD 1 0).toNat : Nat) : Int) v p).2 := by rw [hs]
          rw [hp]
          unfold u1
          (repeat' split) <;> exact ⟨rfl, rfl⟩
         exact adf hm f plain _ _ q2 (g.at _ p2.got) (by show 0 ≤ p2.got ∧ p2.got ≤ p2.sops.length; rw [hsame.1, hsame.2, v3, v4]; exact hg) he
     ·rw [akz rfl h4] at he; cases he
    ·rw [anc h1 h2 h3] at he
     unfold ack at he
     by_cases h4 : q.got = q.sops.length
     ·rw [if_pos h4] at he; cases he
     rw [if_neg h4] at he
     simp only at he
     split at he
     ·rename_i e hx; split at hx <;> cases he
     ·rename_i q3 hx
      split at hx
      ·cases hx
      ·cases hx
       have hmem : q.sops.getD q.got.toNat 0 ∈ (b6 nm).2.1 := by
        rw [← h.sops, List.getD_eq_getElem?_getD, List.getElem?_eq_getElem (by omega)]
        exact List.getElem_mem _
       have g := ak7 h hmem (adh hm q.at1)
       obtain ⟨s1, s2, s3⟩ := abj ((((q.sops.getD q.got.toNat 0).toNat : Nat) : Int)) (e9 av q.at1) q
       refine adf hm f plain _ _ q2 (g.at _ _) ?_ he
       show 0 ≤ q.got + 1 ∧ q.got + 1 ≤ (y8 _ _ q).sops.length
       rw [s3]; omega
  ·rw [ake h1] at he
   by_cases hl : q.got < q.sops.length
   ·rw [if_pos hl] at he; cases he
   ·rw [if_neg hl] at he; cases he; exact ⟨h, by omega⟩
theorem aek {m : Nat} {av : List Bs} (hm : ∀ s ∈ av, s.length ≤ m) {q : PS} (h : w8 av ps0 = .ok q) : u6 q.name = true ∧ Good m q.name q := by
 unfold w8 at h
 by_cases h0 : av.length = 0
 ·rw [if_pos h0] at h; cases h
 rw [if_neg h0] at h
 by_cases hc : u6 (e9 av 0) = false
 ·rw [if_pos hc] at h; cases h
 rw [if_neg hc] at h
 have hc : u6 (e9 av 0) = true := by simpa using hc
 obtain ⟨n1, n2⟩ := afs hc
 have hst := ag6 av
 have e1 := ac7 av
 have e2 := ac6 av
 have hz : ([] : Bs).length ≤ m := Nat.zero_le _
 have g : Good m (e9 av 0) (q6 av ps0) := by
  rw [hst, e1, e2]
  refine ⟨rfl, rfl, rfl, .inl rfl, ⟨by show (1 : Int) ≤ 1024; decide, by show (1024 : Int) ≤ 4096; decide⟩, ?_, ?_, ?_, ?_, ?_, ⟨Int.le_refl _, by show (0 : Int) < 1000000000; decide⟩, ⟨Int.le_refl _, by show (0 : Int) < 1000000000; decide⟩, .inl rfl, .inl rfl, .inl rfl, .inl rfl, .inl rfl, .inl rfl, ⟨adh hm 0, hz, hz, hz, hz, hz⟩⟩
  ·show 0 ≤ (if _ then (10 : Int) else 0) ∧ (if _ then (10 : Int) else 0) ≤ 100
   split <;> decide
  ·show (if _ then (10 : Int) else 0) = 0 ∨ _
   split
   ·rename_i hw; exact .inr (n1.2 hw)
   ·exact .inl rfl
  ·show 0 ≤ (if _ then (16 : Int) else 0) ∧ (if _ then (16 : Int) else 0) ≤ 16384
   split <;> decide
  ·show (if _ then (16 : Int) else 0) = 0 ∨ _
   split
   ·rename_i hw; exact .inr (n2.2 hw)
   ·exact .inl rfl
  ·intro hw
   show 1 ≤ (if _ then (16 : Int) else 0)
   rw [if_pos (n2.1 hw)]; decide
 have hg := (adf hm _ _ _ _ q g (by rw [hst]; exact ⟨Int.le_refl _, Int.natCast_nonneg _⟩) h).1
 rw [hg.name]
 exact ⟨hc, hg⟩
def aas (av : List Bs) (plain : Bool) (q : PS) (sl : List Int) (r : Except (Int × Bs) PS) : Prop := ∀ f : Nat, (av.length : Int) ≤ q.at1 + f → goM av f plain q sl = r
section
variable {av A B : List Bs} {q q2 : PS} {sl : List Int} {v : Bs} {l : UInt8} {r : Except (Int × Bs) PS} {plain : Bool}
theorem aik (hA : av = A ++ [45, l] :: v :: B) (hq : q.at1 = A.length) (hl : l ∈ ([98, 110, 99, 111] : Bs)) (ho : 0 ≤ Lib.indexByte q.sopts l) (hs : sl.count ((l.toNat : Nat) : Int) = 0)
  (hset : u1 ((l.toNat : Nat) : Int) v { q with at1 := q.at1 + 1 } = (true, { q2 with at1 := q.at1 + 1 })) (h : aas av false { q2 with at1 := q.at1 + 2 } (((l.toNat : Nat) : Int) :: sl) r) : aas av false q sl r := by
 intro f hf
 have h2 := (aa1 hA hq).2
 cases f with
 | zero => omega
 | succ f =>
  rw [anp hA hq hl (by unfold ixB; rw [akd]; omega) hs hset]
  have := h f (by show (av.length : Int) ≤ q.at1 + 2 + f; push_cast at hf; omega)
  rw [show q.at1 + 2 = q.at1 + 1 + 1 by omega] at this
  exact this
theorem anf (hA : av = A ++ [45, 45] :: B) (hq : q.at1 = A.length) (h : aas av true { q with at1 := q.at1 + 1 } sl r) : aas av false q sl r := by
 intro f hf
 have h2 := (aa1 hA hq).2
 cases f with
 | zero => omega
 | succ f =>
  rw [ana hA hq]
  exact h f (by show (av.length : Int) ≤ q.at1 + 1 + f; push_cast at hf; omega)
theorem an2 (hA : av = A ++ v :: B) (hq : q.at1 = A.length) (hg : q.got ≠ q.sops.length) (hl : q.sops.getD q.got.toNat 0 = l) (hv : (l = 97 ∨ l = 100) → j5 v = true)
  (h : aas av true { y8 ((l.toNat : Nat) : Int) v q with got := q.got + 1, at1 := q.at1 + 1 } sl r) : aas av true q sl r := by
 intro f hf
 have h2 := (aa1 hA hq).2
 cases f with
 | zero => omega
 | succ f =>
  rw [an0 hA hq hg hl hv]
  exact h f (by show (av.length : Int) ≤ q.at1 + 1 + f; push_cast at hf; omega)
theorem anq (h1 : ¬ q.at1 < av.length) (h2 : ¬ q.got < q.sops.length) : aas av plain q sl (.ok q) := fun f _ => by rw [ake h1, if_neg h2]
end
def acd : CmT → UInt8 → Bs
 | (_, le, vi, so, _, _, _, _, a, d, te), l => if l = 108 then le else if l = 118 then vi else if l = 115 then so else if l = 116 then te else if l = 97 then Lib.itoa a else Lib.itoa d
theorem alb (c : CmT) {l : UInt8} (h : l ∈ ([108, 118, 115, 97, 100, 116] : Bs)) : aca c l = [acd c l] := by
 obtain ⟨nm, le, vi, so, ou, bu, co, ch, a, d, te⟩ := c
 simp only [List.mem_cons, List.mem_nil_iff, or_false] at h
 rcases h with rfl | rfl | rfl | rfl | rfl | rfl <;> rfl
def abz (c : CmT) (q : PS) (l : UInt8) : PS := { y8 ((l.toNat : Nat) : Int) (acd c l) q with got := q.got + 1, at1 := q.at1 + 1 }
def amd (c : CmT) (q : PS) (r : Bs) : PS := r.foldl (abz c) q
theorem ajs {av : List Bs} {c : CmT} {sl : List Int} (hn : j5 (acd c 97) = true ∧ j5 (acd c 100) = true) : ∀ (r pre : Bs) (A : List Bs) (q : PS), q.sops = pre ++ r → q.got = pre.length → (∀ l ∈ r, l ∈ ([108, 118, 115, 97, 100, 116] : Bs)) → av = A ++ r.flatMap (aca c) → q.at1 = A.length → aas av true q sl (.ok (amd c q r))
 | [], pre, A, q, hs, hg, _, hA, hq => by
  have hl : av.length = A.length := by rw [hA]; simp
  exact anq (by omega) (by rw [hs, hg]; simp)
 | l :: r, pre, A, q, hs, hg, hr, hA, hq => by
  have hl := hr l (List.mem_cons_self ..)
  rw [List.flatMap_cons, alb c hl] at hA
  have hget : q.sops.getD q.got.toNat 0 = l := by
   rw [hs, hg, Int.toNat_natCast, List.getD_eq_getElem?_getD, List.getElem?_append_right (Nat.le_refl _), Nat.sub_self]; rfl
  refine an2 (A := A) (v := acd c l) (B := r.flatMap (aca c)) (l := l) (by rw [hA]; rfl) hq (by rw [hs, hg]; simp; omega) hget ?_ ?_
  ·rintro (rfl | rfl)
   ·exact hn.1
   ·exact hn.2
  ·have hsame := abj ((l.toNat : Nat) : Int) (acd c l) q
   exact ajs hn r (pre ++ [l]) (A ++ [acd c l]) (abz c q l) (by show (y8 _ _ q).sops = _; rw [hsame.2.2, hs]; simp) (by show q.got + 1 = _; rw [hg]; simp) (fun x hx => hr x (List.mem_cons_of_mem _ hx)) (by rw [hA]; simp) (by show q.at1 + 1 = _; rw [hq]; simp)
theorem ac2 {nm le vi so ou te : Bs} {bu co ch a d : Int} (ha : g8 (Lib.itoa a) = a) (hd : g8 (Lib.itoa d) = d) : ∀ (r : Bs) (q : PS), (∀ l ∈ r, l ∈ ([108, 118, 115, 97, 100, 116] : Bs)) →
  cmT (amd (nm, le, vi, so, ou, bu, co, ch, a, d, te) q r) = (q.name, if 108 ∈ r then le else q.lens, if 118 ∈ r then vi else q.view, if 115 ∈ r then so else q.src, q.out, q.budget, q.count, q.chunk, if 97 ∈ r then a else q.at0, if 100 ∈ r then d else q.del, if 116 ∈ r then te else q.text)
 | [], q, _ => rfl
 | l :: r, q, hr => by
  have ih := ac2 (nm := nm) (le := le) (vi := vi) (so := so) (ou := ou) (te := te) (bu := bu) (co := co) (ch := ch) ha hd r (abz (nm, le, vi, so, ou, bu, co, ch, a, d, te) q l) (fun x hx => hr x (List.mem_cons_of_mem _ hx))
  show cmT (amd (nm, le, vi, so, ou, bu, co, ch, a, d, te) (abz (nm, le, vi, so, ou, bu, co, ch, a, d, te) q l) r) = _
  rw [ih]
  have hl := hr l (List.mem_cons_self ..)
  simp only [List.mem_cons, List.mem_nil_iff, or_false] at hl
  rcases hl with rfl | rfl | rfl | rfl | rfl | rfl
  ·simp [abz, y8, acd]
  ·simp [abz, y8, acd]
  ·simp [abz, y8, acd]
  ·simp [abz, y8, acd, ha]
  ·simp [abz, y8, acd, hd]
  ·simp [abz, y8, acd]
section
variable {av A B : List Bs} {sl : List Int} {nm ou : Bs} {bu c0 h0 co ch : Int} {r : Except (Int × Bs) PS}
theorem aa4 {sl : List Int} {y x : Int} (h : x ≠ y) : (y :: sl).count x = sl.count x := List.count_cons_of_ne (Ne.symm h)
theorem anj (hA : av = A ++ [45, 98] :: Lib.itoa bu :: B) (hb : 1 ≤ bu ∧ bu ≤ 4096) (ho : 0 ≤ Lib.indexByte (b6 nm).2.2 98) (hs : sl.count 98 = 0)
  (h : ∀ A' sl', av = A' ++ B → (∀ x, x ≠ 98 → sl'.count x = sl.count x) → aas av false (mkP nm (nm, [], [], [], [], bu, c0, h0, 0, 0, []) A'.length 0) sl' r) :
  aas av false (mkP nm (nm, [], [], [], [], 1024, c0, h0, 0, 0, []) A.length 0) sl r := by
 obtain ⟨n1, n2, _⟩ := aa9 (n := bu) (by omega) (by omega)
 refine aik (A := A) (v := Lib.itoa bu) (B := B) (l := 98) (q2 := mkP nm (nm, [], [], [], [], bu, c0, h0, 0, 0, []) 0 0) hA rfl (by simp) ho hs ?_ ?_
 ·rw [show (((98 : UInt8).toNat : Nat) : Int) = 98 from rfl, an3 ⟨n1, by omega, by omega⟩, n2]; rfl
 ·have := h (A ++ [[45, 98], Lib.itoa bu]) (98 :: sl) (by rw [hA]; simp) (fun x hx => aa4 hx)
  rw [show (((A ++ [[45, 98], Lib.itoa bu]).length : Nat) : Int) = (A.length : Int) + 2 by simp] at this
  exact this
theorem and (hA : av = A ++ ((if ou = [] then [] else [[45, 111], ou]) ++ B)) (ho : ou = [] ∨ 0 ≤ Lib.indexByte (b6 nm).2.2 111) (hs : sl.count 111 = 0)
  (h : ∀ A' sl', av = A' ++ B → (∀ x, x ≠ 111 → sl'.count x = sl.count x) → aas av false (mkP nm (nm, [], [], [], ou, bu, c0, h0, 0, 0, []) A'.length 0) sl' r) :
  aas av false (mkP nm (nm, [], [], [], [], bu, c0, h0, 0, 0, []) A.length 0) sl r := by
 by_cases hou : ou = []
 ·rw [if_pos hou, List.nil_append] at hA
  have := h A sl hA (fun _ _ => rfl)
  rw [hou] at this; exact this
 ·rw [if_neg hou] at hA
  have ho := ho.resolve_left hou
  refine aik (A := A) (v := ou) (B := B) (l := 111) (q2 := mkP nm (nm, [], [], [], ou, bu, c0, h0, 0, 0, []) 0 0) (by rw [hA]; rfl) rfl (by simp) ho hs ?_ ?_
  ·rw [show (((111 : UInt8).toNat : Nat) : Int) = 111 from rfl, an4 hou]; rfl
  ·have := h (A ++ [[45, 111], ou]) (111 :: sl) (by rw [hA]; simp) (fun x hx => aa4 hx)
   rw [show (((A ++ [[45, 111], ou]).length : Nat) : Int) = (A.length : Int) + 2 by simp] at this
   exact this
theorem am7 (hA : av = A ++ ((if 0 ≤ Lib.indexByte (b6 nm).2.2 110 then [[45, 110], Lib.itoa co] else []) ++ B)) (hb : 0 ≤ co ∧ co ≤ 100) (hn : ¬ 0 ≤ Lib.indexByte (b6 nm).2.2 110 → c0 = co) (hs : sl.count 110 = 0)
  (h : ∀ A' sl', av = A' ++ B → (∀ x, x ≠ 110 → sl'.count x = sl.count x) → aas av false (mkP nm (nm, [], [], [], ou, bu, co, h0, 0, 0, []) A'.length 0) sl' r) :
  aas av false (mkP nm (nm, [], [], [], ou, bu, c0, h0, 0, 0, []) A.length 0) sl r := by
 by_cases hi : 0 ≤ Lib.indexByte (b6 nm).2.2 110
 ·rw [if_pos hi] at hA
  obtain ⟨n1, n2, _⟩ := aa9 (n := co) (by omega) (by omega)
  refine aik (A := A) (v := Lib.itoa co) (B := B) (l := 110) (q2 := mkP nm (nm, [], [], [], ou, bu, co, h0, 0, 0, []) 0 0) (by rw [hA]; rfl) rfl (by simp) hi hs ?_ ?_
  ·rw [show (((110 : UInt8).toNat : Nat) : Int) = 110 from rfl]
   unfold u1
   rw [if_neg (by decide), if_pos rfl, n1, n2, decide_eq_true hb.1, decide_eq_true hb.2]; rfl
  ·have := h (A ++ [[45, 110], Lib.itoa co]) (110 :: sl) (by rw [hA]; simp) (fun x hx => aa4 hx)
   rw [show (((A ++ [[45, 110], Lib.itoa co]).length : Nat) : Int) = (A.length : Int) + 2 by simp] at this
   exact this
 ·rw [if_neg hi, List.nil_append] at hA
  have := h A sl hA (fun _ _ => rfl)
  rw [hn hi]; exact this
theorem am9 (hA : av = A ++ ((if 0 ≤ Lib.indexByte (b6 nm).2.2 99 then [[45, 99], Lib.itoa ch] else []) ++ B)) (hb : 0 ≤ Lib.indexByte (b6 nm).2.2 99 → 1 ≤ ch) (hb2 : ch ≤ 16384) (hn : ¬ 0 ≤ Lib.indexByte (b6 nm).2.2 99 → h0 = ch) (hs : sl.count 99 = 0)
  (h : ∀ A' sl', av = A' ++ B → aas av false (mkP nm (nm, [], [], [], ou, bu, co, ch, 0, 0, []) A'.length 0) sl' r) :
  aas av false (mkP nm (nm, [], [], [], ou, bu, co, h0, 0, 0, []) A.length 0) sl r := by
 by_cases hi : 0 ≤ Lib.indexByte (b6 nm).2.2 99
 ·rw [if_pos hi] at hA
  have hb := hb hi
  obtain ⟨n1, n2, _⟩ := aa9 (n := ch) (by omega) (by omega)
  refine aik (A := A) (v := Lib.itoa ch) (B := B) (l := 99) (q2 := mkP nm (nm, [], [], [], ou, bu, co, ch, 0, 0, []) 0 0) (by rw [hA]; rfl) rfl (by simp) hi hs ?_ ?_
  ·rw [show (((99 : UInt8).toNat : Nat) : Int) = 99 from rfl]
   unfold u1
   rw [if_neg (by decide), if_neg (by decide), if_pos rfl, n1, n2, decide_eq_true hb, decide_eq_true hb2]; rfl
  ·have := h (A ++ [[45, 99], Lib.itoa ch]) (99 :: sl) (by rw [hA]; simp)
   rw [show (((A ++ [[45, 99], Lib.itoa ch]).length : Nat) : Int) = (A.length : Int) + 2 by simp] at this
   exact this
 ·rw [if_neg hi, List.nil_append] at hA
  have := h A sl hA
  rw [hn hi]; exact this
end
theorem anm {nm : Bs} (h : u6 nm = true) : 0 ≤ Lib.indexByte (b6 nm).2.2 98 := by
 obtain ⟨h1, _⟩ := agb h
 exact (by decide : ∀ s ∈ shapes, 0 ≤ Lib.indexByte s.2.2 98) _ h1
theorem aia {m : Nat} {av : List Bs} (hm : ∀ s ∈ av, s.length ≤ m) {q : PS} (hq : w8 av ps0 = .ok q) : ∃ q2, w8 (b7 (cmT q)) ps0 = .ok q2 ∧ cmT q2 = cmT q := by
 obtain ⟨hc, g⟩ := aek hm hq
 obtain ⟨nm, le, vi, so, ou, bu, co, ch, a, d, te, sn, sops, sopts, at1, got⟩ := q
 have hc : u6 nm = true := hc
 obtain ⟨_, _, _, gou, gbu, gco, gco0, gch, gch0, gch1, ga, gd, gle, gvi, gso, gte, ga9, gd9, _⟩ := g
 dsimp only at gou gbu gco gco0 gch gch0 gch1 ga gd gle gvi gso gte ga9 gd9
 show ∃ q2, w8 (b7 (nm, le, vi, so, ou, bu, co, ch, a, d, te)) ps0 = .ok q2 ∧ cmT q2 = (nm, le, vi, so, ou, bu, co, ch, a, d, te)
 generalize hC : (nm, le, vi, so, ou, bu, co, ch, a, d, te) = c
 have hsplit : b7 c = [nm] ++ [45, 98] :: Lib.itoa bu :: ((if ou = [] then [] else [[45, 111], ou]) ++ ((if 0 ≤ Lib.indexByte (b6 nm).2.2 110 then [[45, 110], Lib.itoa co] else []) ++ ((if 0 ≤ Lib.indexByte (b6 nm).2.2 99 then [[45, 99], Lib.itoa ch] else []) ++ [45, 45] :: (b6 nm).2.1.flatMap (aca c)))) := by
  unfold b7
  rw [← hC, aa8, abe, abc]
  simp only [List.append_assoc, List.cons_append, List.nil_append]
 generalize hav : b7 c = av' at hsplit
 have h0 : e9 av' 0 = nm := (aa1 (av := av') (A := []) (x := nm) (i := 0) (by rw [hsplit]; rfl) rfl).1
 have hl0 : ¬ av'.length = 0 := by rw [hsplit]; simp
 obtain ⟨n1, n2⟩ := afs hc
 obtain ⟨_, hops, _⟩ := ame hc
 obtain ⟨va1, va2, _⟩ := aa9 ga.1 ga.2
 obtain ⟨vd1, vd2, _⟩ := aa9 gd.1 gd.2
 have hst := ag6 av'
 have e1 := ac7 av'
 have e2 := ac6 av'
 rw [h0] at hst e1 e2
 have key : ∃ q2, cmT q2 = c ∧ aas av' false (q6 av' ps0) [] (.ok q2) := by
  have hcm : ∀ i : Int, cmT (amd c (mkP nm (nm, [], [], [], ou, bu, co, ch, 0, 0, []) i 0) (b6 nm).2.1) = c := by
   intro i
   have := ac2 (nm := nm) (le := le) (vi := vi) (so := so) (ou := ou) (te := te) (bu := bu) (co := co) (ch := ch) va2 vd2 (b6 nm).2.1 (mkP nm (nm, [], [], [], ou, bu, co, ch, 0, 0, []) i 0) hops
   rw [hC] at this
   rw [this, ← hC]
   have f1 : (if 108 ∈ (b6 nm).2.1 then le else []) = le := by split; rfl; exact (gle.resolve_right (by assumption)).symm
   have f2 : (if 118 ∈ (b6 nm).2.1 then vi else []) = vi := by split; rfl; exact (gvi.resolve_right (by assumption)).symm
   have f3 : (if 115 ∈ (b6 nm).2.1 then so else []) = so := by split; rfl; exact (gso.resolve_right (by assumption)).symm
   have f4 : (if 116 ∈ (b6 nm).2.1 then te else []) = te := by split; rfl; exact (gte.resolve_right (by assumption)).symm
   have f5 : (if 97 ∈ (b6 nm).2.1 then a else 0) = a := by split; rfl; exact (ga9.resolve_right (by assumption)).symm
   have f6 : (if 100 ∈ (b6 nm).2.1 then d else 0) = d := by split; rfl; exact (gd9.resolve_right (by assumption)).symm
   simp only [mkP, f1, f2, f3, f4, f5, f6]
  have go : ∀ (r : Except (Int × Bs) PS), (∀ A' sl', av' = A' ++ (b6 nm).2.1.flatMap (aca c) → aas av' true (mkP nm (nm, [], [], [], ou, bu, co, ch, 0, 0, []) A'.length 0) sl' r) → aas av' false (q6 av' ps0) [] r := by
   intro r hr
   rw [hst, e1, e2]
   refine anj (A := [nm]) hsplit gbu (anm hc) rfl fun A1 s1 h1 k1 => ?_
   refine and h1 gou ((k1 111 (by decide)).trans rfl) fun A2 s2 h2 k2 => ?_
   refine am7 h2 gco (fun hi => ?_) ((k2 110 (by decide)).trans ((k1 110 (by decide)).trans rfl)) fun A3 s3 h3 k3 => ?_
   ·rw [if_neg (fun hw => hi (n1.2 hw))]; exact (gco0.resolve_right hi).symm
   refine am9 h3 gch1 gch.2 (fun hi => ?_) ((k3 99 (by decide)).trans ((k2 99 (by decide)).trans ((k1 99 (by decide)).trans rfl))) fun A4 s4 h4 => ?_
   ·rw [if_neg (fun hw => hi (n2.2 hw))]; exact (gch0.resolve_right hi).symm
   refine anf (A := A4) (B := (b6 nm).2.1.flatMap (aca c)) h4 rfl ?_
   have := hr (A4 ++ [([45, 45] : Bs)]) s4 (by rw [h4]; simp)
   have e3 : ((A4 ++ [([45, 45] : Bs)]).length : Int) = (A4.length : Int) + 1 := by simp
   rw [e3] at this
   exact this
  have hlen : ∀ A' : List Bs, av' = A' ++ (b6 nm).2.1.flatMap (aca c) → (A'.length : Int) = (av'.length : Int) - (((b6 nm).2.1.flatMap (aca c)).length : Int) := by
   intro A' h
   have := congrArg List.length h
   rw [List.length_append] at this
   omega
  refine ⟨_, hcm ((av'.length : Int) - (((b6 nm).2.1.flatMap (aca c)).length : Int)), go _ fun A' sl' h => ?_⟩
  have hw : j5 (acd c 97) = true ∧ j5 (acd c 100) = true := by rw [← hC]; exact ⟨va1, vd1⟩
  rw [← hlen A' h]
  exact ajs hw (b6 nm).2.1 [] A' _ rfl rfl hops h rfl
 obtain ⟨q2, hq2, hgo⟩ := key
 refine ⟨q2, ?_, hq2⟩
 unfold w8
 rw [if_neg hl0, h0, if_neg (by rw [hc]; decide)]
 exact hgo av'.length (by rw [hst]; show (av'.length : Int) ≤ 1 + av'.length; omega)
theorem agz {m : Nat} {q : PS} (hc : u6 q.name = true) (g : Good m q.name q) : alu (cmT q) := by
 obtain ⟨_, _, _, _, gbu, gco, _, gch, _, _, ga, gd, _⟩ := g
 refine ⟨hc, ?_, ?_, ?_, ?_, ?_⟩ <;> unfold I64 <;> simp only [cmT] <;> omega
theorem ajk {m : Nat} (hm : 21 ≤ m) {q : PS} (hc : u6 q.name = true) (g : Good m q.name q) : ∀ s ∈ b7 (cmT q), s.length ≤ m := by
 have hb := agz hc g
 obtain ⟨z1, z2, z3, z4, z5, z6⟩ := g.size
 obtain ⟨nm, le, vi, so, ou, bu, co, ch, a, d, te, sn, sops, sopts, at1, got⟩ := q
 obtain ⟨_, b1, b2, b3, b4, b5⟩ := hb
 dsimp only at z1 z2 z3 z4 z5 z6
 have l1 : (Lib.itoa bu).length ≤ 21 := aa7 b1
 have l2 : (Lib.itoa co).length ≤ 21 := aa7 b2
 have l3 : (Lib.itoa ch).length ≤ 21 := aa7 b3
 have l4 : (Lib.itoa a).length ≤ 21 := aa7 b4
 have l5 : (Lib.itoa d).length ≤ 21 := aa7 b5
 intro s hs
 have hs : s ∈ b7 (nm, le, vi, so, ou, bu, co, ch, a, d, te) := hs
 unfold b7 at hs
 rw [aa8, abe, abc] at hs
 simp only [List.mem_append, List.mem_flatMap, List.mem_cons, List.mem_nil_iff, or_false] at hs
 rcases hs with ((((((rfl | rfl | rfl) | h) | h) | h) | rfl) | ⟨x, _, h⟩)
 ·omega
 ·simp; omega
 ·omega
 ·split at h
  ·cases h
  ·simp only [List.mem_cons, List.mem_nil_iff, or_false] at h
   rcases h with rfl | rfl
   ·simp; omega
   ·omega
 ·split at h
  ·simp only [List.mem_cons, List.mem_nil_iff, or_false] at h
   rcases h with rfl | rfl
   ·simp; omega
   ·omega
  ·cases h
 ·split at h
  ·simp only [List.mem_cons, List.mem_nil_iff, or_false] at h
   rcases h with rfl | rfl
   ·simp; omega
   ·omega
  ·cases h
 ·simp; omega
 ·rw [af9] at h
  by_cases g1 : x = 108
  ·rw [if_pos g1] at h; obtain rfl := List.mem_singleton.1 h; omega
  rw [if_neg g1] at h
  by_cases g2 : x = 118
  ·rw [if_pos g2] at h; obtain rfl := List.mem_singleton.1 h; omega
  rw [if_neg g2] at h
  by_cases g3 : x = 115
  ·rw [if_pos g3] at h; obtain rfl := List.mem_singleton.1 h; omega
  rw [if_neg g3] at h
  by_cases g4 : x = 116
  ·rw [if_pos g4] at h; obtain rfl := List.mem_singleton.1 h; omega
  rw [if_neg g4] at h
  by_cases g5 : x = 97
  ·rw [if_pos g5] at h; obtain rfl := List.mem_singleton.1 h; omega
  rw [if_neg g5] at h
  by_cases g6 : x = 100
  ·rw [if_pos g6] at h; obtain rfl := List.mem_singleton.1 h; omega
  rw [if_neg g6] at h; cases h
theorem alc (c : CmT) : (b7 c).length ≤ 15 := by
 have := (acz c).2.2
 have := aer c (b6 c.1).2.1
 have := (aa6 c.1).1
 unfold b7
 rw [List.length_append, List.length_append]
 simp only [List.length_cons, List.length_nil]
 omega
theorem ai1 {av : List Bs} (hb : ∀ s ∈ av, s.length ≤ 140737488351232) (h : ¬ agd av = true) : alu (a8 av) ∧ AvB (b7 (a8 av)) ∧ a8 (b7 (a8 av)) = a8 av ∧ j9 (b7 (a8 av)) = (0, 0, []) := by
 unfold agd at h
 cases hq : w8 av ps0 with
 | error e => rw [hq] at h; exact absurd rfl h
 | ok q =>
  obtain ⟨hc, g⟩ := aek hb hq
  have e : a8 av = cmT q := by unfold a8; rw [hq]
  obtain ⟨q2, h1, h2⟩ := aia hb hq
  rw [e]
  refine ⟨agz hc g, ⟨?_, fun s hs => ?_⟩, ?_, ?_⟩
  ·have := alc (cmT q); omega
  ·have := ajk (by omega) hc g s hs; omega
  ·unfold a8; rw [h1]; exact h2
  ·unfold j9; rw [h1]
end Go.Proofs.YtgocbiiolmmonaaDoor
namespace Go.Proofs.YtgocbiiolmmonaaDoor
open Go Go.RowKit
abbrev r9 (d : Bs) : Value := .agg [st d].toArray
abbrev Fl := Bool × Int × Int
abbrev f7 (f : Fl) : Value := .agg [Value.bool f.1, Value.int .i64 f.2.1, Value.int .i64 f.2.2].toArray
def ab9 : Option Value → Value
 | none => .nilIface
 | some v => .iface 65 v
section
variable {P : Program} {C : Cx} {L : Sl} {H : List HA} {x : Operand} {t t' ty : TypeId} {d : Option Tmp} {p : String} {e : Array Edge} {g : Option (Nat × Bool)} {ms : Array (String × TypeId)}
theorem OV.eqlNilE {v : Value} {tv : TypeId} {y : Operand} (hx : ev L x = some (.iface tv v)) (hy : ev L y = some .nilIface) (hu : P.underlying t = some (.interface ms)) : OV P C L H ⟨d, .binOp .eql t x y t', ty, p, e, g⟩ (.bool false) := fun a w hf _ => by
 have h : binOp .eql t (.iface tv v) .nilIface = (do pure (.bool (← Op.equal t (.iface tv v) .nilIface))) := rfl
 have h2 : (Op.equal t (.iface tv v) .nilIface).run P w = .ok false w := by
  unfold Op.equal Op.maxDepth Op.equalIn
  rw [Sem.run_bind, n5 hu]; rfl
 simp only [execOp, hf.ev hx, hf.ev hy, eqGuard_at_iface, h, Sem.run_bind, Sem.run_pure, Result.andThen_ok, h2]
theorem OV.eqlNilE0 (hx : ev L x = some .nilIface) (hu : P.underlying t = some (.interface ms)) : OV P C L H ⟨d, .binOp .eql t x (.const .nilIface) t', ty, p, e, g⟩ (.bool true) := fun a w hf _ => by
 have h : binOp .eql t .nilIface .nilIface = (do pure (.bool (← Op.equal t .nilIface .nilIface))) := rfl
 have h2 : (Op.equal t .nilIface .nilIface).run P w = .ok true w := by
  unfold Op.equal Op.maxDepth Op.equalIn
  rw [Sem.run_bind, n5 hu]; rfl
 have hc : a.eval (.const .nilIface) = .nilIface := rfl
 simp only [execOp, hf.ev hx, hc, eqGuard_nil_constR, h, Sem.run_bind, Sem.run_pure, Result.andThen_ok, h2]
theorem OV.eqlErr {z : Option Value} (hx : ev L x = some (ab9 z)) (hu : P.underlying t = some (.interface ms)) : OV P C L H ⟨d, .binOp .eql t x (.const .nilIface) t', ty, p, e, g⟩ (.bool z.isNone) := by
 cases z with
 | none => exact OV.eqlNilE0 hx hu
 | some v => exact OV.eqlNilE hx rfl hu
theorem OV.neqErr {z : Option Value} (hx : ev L x = some (ab9 z)) (hu : P.underlying t = some (.interface ms)) : OV P C L H ⟨d, .binOp .neq t x (.const .nilIface) t', ty, p, e, g⟩ (.bool z.isSome) := by
 cases z with
 | none => exact OV.neqNil0 hx hu
 | some v => exact OV.neqNil hx rfl hu
end
end Go.Proofs.YtgocbiiolmmonaaDoor
