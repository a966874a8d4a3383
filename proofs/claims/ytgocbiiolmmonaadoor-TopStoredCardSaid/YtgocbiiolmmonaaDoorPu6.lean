/-
  Merged: TsL, Open, ArW, TsLaw.
-/
import Derived.ChangeArms
import Derived.DataReads
import Derived.WideShapes
import Derived.Lib.SmallJoins
import Derived.SizedLaws
import Derived.Stop.LaidErr
import Derived.Test.YtgocbiiolmmonaaDoorPu5
set_option maxRecDepth 100000
namespace Go.Proofs.YtgocbiiolmmonaaDoor
open Go Go.RowKit
theorem ado : n9 Tryd.prog 4 = true := by kernel_rfl
theorem aar : w9 Tryd.prog 25 = true := by kernel_rfl
theorem aba : Program.stoodInHeld Tryd.prog 27 = false := by kernel_rfl
theorem acx : Program.eqGuardType Tryd.prog Tryd.prog.depth 27 = false := by kernel_rfl
theorem ac1 : Program.stoodInHeld Tryd.prog 24 = false := by kernel_rfl
theorem ae5 : Program.eqGuardType Tryd.prog Tryd.prog.depth 24 = false := by kernel_rfl
theorem ae0 : g7 Tryd.prog 27 0 = some 0 := by kernel_rfl
theorem aks : n9 Tryd.prog 5 = true := by kernel_rfl
theorem aj1 : n9 Tryd.prog 6 = true := by kernel_rfl
theorem agn : n9 Tryd.prog 7 = true := by kernel_rfl
theorem aeg : n9 Tryd.prog 8 = true := by kernel_rfl
theorem ag5 : n9 Tryd.prog 9 = true := by kernel_rfl
def acb (argv : List (List UInt8)) (data : List UInt8) (keep : Int) (_ : Addr) (_ : Addr) (_ : Addr) (_ : Addr) (K : Bool → Prop) : Prop :=
 (AvB [([112, 117, 116] : List UInt8), ([108] : List UInt8), ([118] : List UInt8), ([115] : List UInt8)]) ∧
 (if ((!k8 [decide ((j9 [([112, 117, 116] : List UInt8), ([108] : List UInt8), ([118] : List UInt8), ([115] : List UInt8)]).1 = 0), decide ((j9 [([112, 117, 116] : List UInt8), ([108] : List UInt8), ([118] : List UInt8), ([115] : List UInt8)]).2.1 = 0), decide ((j9 [([112, 117, 116] : List UInt8), ([108] : List UInt8), ([118] : List UInt8), ([115] : List UInt8)]).2.2 = [])]) || (!decide ((a8 [([112, 117, 116] : List UInt8), ([108] : List UInt8), ([118] : List UInt8), ([115] : List UInt8)]).2.2.2.1 = ([115] : List UInt8)))) = true then
  K false
 else
  (((([] : List (List UInt8)).length + argv.length) + (([] : List (List UInt8)).length + argv.length) / 4 + 192) * 16 ≤ 281474976710656 ∧ ([] : List (List UInt8)).length + argv.length ≤ 9223372036854775807) ∧
  (AvB argv) ∧
  (if (!k8 [decide ((j9 argv).1 = 0), decide ((j9 argv).2.1 = 0), decide ((j9 argv).2.2 = [])]) = true then
   K ((k8 [decide ((a8 argv).1 = []), decide ((a8 argv).2.1 = []), decide ((a8 argv).2.2.1 = []), decide ((a8 argv).2.2.2.1 = []), decide ((a8 argv).2.2.2.2.1 = []), decide ((a8 argv).2.2.2.2.2.1 = 0), decide ((a8 argv).2.2.2.2.2.2.1 = 0), decide ((a8 argv).2.2.2.2.2.2.2.1 = 0), decide ((a8 argv).2.2.2.2.2.2.2.2.1 = 0), decide ((a8 argv).2.2.2.2.2.2.2.2.2.1 = 0), decide ((a8 argv).2.2.2.2.2.2.2.2.2.2 = [])]) && (decide ((j9 argv).1 = 140)))
  else
   (alu (a8 argv)) ∧
   (
    (AvB (b7 (a8 argv))) ∧
    (if ((!k8 [decide ((j9 (b7 (a8 argv))).1 = 0), decide ((j9 (b7 (a8 argv))).2.1 = 0), decide ((j9 (b7 (a8 argv))).2.2 = [])]) || (!k8 [decide ((a8 (b7 (a8 argv))).1 = (a8 argv).1), decide ((a8 (b7 (a8 argv))).2.1 = (a8 argv).2.1), decide ((a8 (b7 (a8 argv))).2.2.1 = (a8 argv).2.2.1), decide ((a8 (b7 (a8 argv))).2.2.2.1 = (a8 argv).2.2.2.1), decide ((a8 (b7 (a8 argv))).2.2.2.2.1 = (a8 argv).2.2.2.2.1), decide ((a8 (b7 (a8 argv))).2.2.2.2.2.1 = (a8 argv).2.2.2.2.2.1), decide ((a8 (b7 (a8 argv))).2.2.2.2.2.2.1 = (a8 argv).2.2.2.2.2.2.1), decide ((a8 (b7 (a8 argv))).2.2.2.2.2.2.2.1 = (a8 argv).2.2.2.2.2.2.2.1), decide ((a8 (b7 (a8 argv))).2.2.2.2.2.2.2.2.1 = (a8 argv).2.2.2.2.2.2.2.2.1), decide ((a8 (b7 (a8 argv))).2.2.2.2.2.2.2.2.2.1 = (a8 argv).2.2.2.2.2.2.2.2.2.1), decide ((a8 (b7 (a8 argv))).2.2.2.2.2.2.2.2.2.2 = (a8 argv).2.2.2.2.2.2.2.2.2.2)])) = true then
     K false
    else
     (I64 keep) ∧
     (
      (agm 0 0 fm0 ∧ ((a8 argv).2.1).length ≤ 140737488355328 ∧ data.length ≤ 140737488355328) ∧
      (∀ (xe : Option Value), xe.isSome = (b9 fm0 (wf0 keep) 0 ((a8 argv).2.1) data).2 →
       (agm 0 (0 + 1) ((b9 fm0 (wf0 keep) 0 ((a8 argv).2.1) data).1) ∧ ((a8 (b7 (a8 argv))).2.1).length ≤ 140737488355328) ∧
       (∀ (xe_1' : Option Value), xe_1'.isSome = (j3 ((b9 fm0 (wf0 keep) 0 ((a8 argv).2.1) data).1) ([] : List (Int × Fl)) 0 ((a8 (b7 (a8 argv))).2.1)).2 →
        ∃ (J0 : Prop),
         (∀ (_ : Unit), J0 →
          (agm (0 + 1) (0 + 1) ((b9 fm0 (wf0 keep) 0 ((a8 argv).2.1) data).1) ∧ ((a8 argv).2.1).length ≤ 140737488355328 ∧ ([110, 101, 119, 32, 99, 111, 110, 116, 101, 110, 116, 115] : List UInt8).length ≤ 140737488355328) ∧
          (∀ (xe_2' : Option Value), xe_2'.isSome = (b9 ((b9 fm0 (wf0 keep) 0 ((a8 argv).2.1) data).1) (wf0 keep) (0 + 1) ((a8 argv).2.1) ([110, 101, 119, 32, 99, 111, 110, 116, 101, 110, 116, 115] : List UInt8)).2 →
           (agm (0 + 1) ((0 + 1) + 1) ((b9 ((b9 fm0 (wf0 keep) 0 ((a8 argv).2.1) data).1) (wf0 keep) (0 + 1) ((a8 argv).2.1) ([110, 101, 119, 32, 99, 111, 110, 116, 101, 110, 116, 115] : List UInt8)).1) ∧ ((a8 (b7 (a8 argv))).2.1).length ≤ 140737488355328) ∧
           (∀ (xe_3' : Option Value), xe_3'.isSome = (j3 ((b9 ((b9 fm0 (wf0 keep) 0 ((a8 argv).2.1) data).1) (wf0 keep) (0 + 1) ((a8 argv).2.1) ([110, 101, 119, 32, 99, 111, 110, 116, 101, 110, 116, 115] : List UInt8)).1) ([] : List (Int × Fl)) (0 + 1) ((a8 (b7 (a8 argv))).2.1)).2 →
            (agm ((0 + 1) + 1) ((0 + 1) + 1) ((b9 ((b9 fm0 (wf0 keep) 0 ((a8 argv).2.1) data).1) (wf0 keep) (0 + 1) ((a8 argv).2.1) ([110, 101, 119, 32, 99, 111, 110, 116, 101, 110, 116, 115] : List UInt8)).1) ∧ ([111, 116, 104, 101, 114] : List UInt8).length ≤ 140737488355328) ∧
            (∀ (xe_4' : Option Value), xe_4'.isSome = (j3 ((b9 ((b9 fm0 (wf0 keep) 0 ((a8 argv).2.1) data).1) (wf0 keep) (0 + 1) ((a8 argv).2.1) ([110, 101, 119, 32, 99, 111, 110, 116, 101, 110, 116, 115] : List UInt8)).1) ([] : List (Int × Fl)) ((0 + 1) + 1) ([111, 116, 104, 101, 114] : List UInt8)).2 →
             (if (xe_2'.isNone || ((!decide ((a8 argv).2.1 = ([111, 116, 104, 101, 114] : List UInt8))) && (xe_4'.isSome || (!decide ((j3 ((b9 ((b9 fm0 (wf0 keep) 0 ((a8 argv).2.1) data).1) (wf0 keep) (0 + 1) ((a8 argv).2.1) ([110, 101, 119, 32, 99, 111, 110, 116, 101, 110, 116, 115] : List UInt8)).1) ([] : List (Int × Fl)) ((0 + 1) + 1) ([111, 116, 104, 101, 114] : List UInt8)).1 = ([115, 116, 97, 121, 115] : List UInt8)))))) = true then
              K false
             else
              (((a8 argv).2.1).length ≤ 140737488355328) ∧
              (if (!(l8 ((a8 argv).2.1))) = true then
               K (decide ((j3 ((b9 ((b9 fm0 (wf0 keep) 0 ((a8 argv).2.1) data).1) (wf0 keep) (0 + 1) ((a8 argv).2.1) ([110, 101, 119, 32, 99, 111, 110, 116, 101, 110, 116, 115] : List UInt8)).1) ([] : List (Int × Fl)) (0 + 1) ((a8 (b7 (a8 argv))).2.1)).1 = []))
              else
               (if (decide (keep < 0)) = true then
                K (decide ((j3 ((b9 ((b9 fm0 (wf0 keep) 0 ((a8 argv).2.1) data).1) (wf0 keep) (0 + 1) ((a8 argv).2.1) ([110, 101, 119, 32, 99, 111, 110, 116, 101, 110, 116, 115] : List UInt8)).1) ([] : List (Int × Fl)) (0 + 1) ((a8 (b7 (a8 argv))).2.1)).1 = data))
               else
                (0 ≤ (min keep 12) ∧ (min keep 12) ≤ ([110, 101, 119, 32, 99, 111, 110, 116, 101, 110, 116, 115] : List UInt8).length) ∧
                K (decide ((j3 ((b9 ((b9 fm0 (wf0 keep) 0 ((a8 argv).2.1) data).1) (wf0 keep) (0 + 1) ((a8 argv).2.1) ([110, 101, 119, 32, 99, 111, 110, 116, 101, 110, 116, 115] : List UInt8)).1) ([] : List (Int × Fl)) (0 + 1) ((a8 (b7 (a8 argv))).2.1)).1 = ([110, 101, 119, 32, 99, 111, 110, 116, 101, 110, 116, 115] : List UInt8).take (min keep 12).toNat))))))))) ∧
         (((a8 argv).2.1).length ≤ 140737488355328) ∧
         (if (l8 ((a8 argv).2.1)) = true then
          (if ((xe.isSome || xe_1'.isSome) || (!decide ((j3 ((b9 fm0 (wf0 keep) 0 ((a8 argv).2.1) data).1) ([] : List (Int × Fl)) 0 ((a8 (b7 (a8 argv))).2.1)).1 = data))) = true then
           K false
          else
           J0)
         else
          (if (xe.isNone || xe_1'.isNone) = true then
           K false
          else
           J0)))))))))
set_option maxHeartbeats 4000000 in
theorem aht (w : Value) (te : TypeId) (fre : Nat × Nat) (te2 : TypeId) (fre2 : Nat × Nat) (te3 : TypeId) (fre3 : Nat × Nat) (te4 : TypeId) (fre4 : Nat × Nat) (te5 : TypeId) (fre5 : Nat × Nat) (te6 : TypeId) (fre6 : Nat × Nat) (argv : List (List UInt8)) (data : List UInt8) (keep : Int) (q0 : Addr) (q1 : Addr) (q2 : Addr) (q3 : Addr) (Ri1 : List (Nat × Obj)) (hRi1 : aaq w Ri1 argv.length (argv.flatMap m9)) (K : Bool → Prop) (h : acb argv data keep q0 q1 q2 q3 K) :
  i7 Tryd.prog 3 [w, st data, zI keep] (Ri1 ++ [(4, .cells [st ([99, 104, 101, 99, 107] : List UInt8), st ([108] : List UInt8), st ([98] : List UInt8), st ([99, 111, 100, 101] : List UInt8), st ([108] : List UInt8), st ([98] : List UInt8), st ([119, 111, 114, 100, 115] : List UInt8), st ([108] : List UInt8), st ([98, 110] : List UInt8), st ([103, 101, 116] : List UInt8), st ([108, 115] : List UInt8), st ([98, 111] : List UInt8), st ([99, 97, 110, 111, 110] : List UInt8), st ([108, 115] : List UInt8), st ([98, 111] : List UInt8), st ([119, 104, 101, 114, 101] : List UInt8), st ([108, 115] : List UInt8), st ([98] : List UInt8), st ([115, 116, 114, 101, 97, 109] : List UInt8), st ([108, 115] : List UInt8), st ([98, 99] : List UInt8), st ([99, 114, 101, 97, 116, 101] : List UInt8), st ([108, 118] : List UInt8), st ([98, 111] : List UInt8), st ([112, 117, 116] : List UInt8), st ([108, 118, 115] : List UInt8), st ([98, 111] : List UInt8), st ([101, 100, 105, 116] : List UInt8), st ([108, 115, 97, 100, 116] : List UInt8), st ([98, 111] : List UInt8)].toArray te fre), (6, .cells [Value.int .u64 1, Value.int .u64 10, Value.int .u64 100, Value.int .u64 1000, Value.int .u64 10000, Value.int .u64 100000, Value.int .u64 1000000, Value.int .u64 10000000, Value.int .u64 100000000, Value.int .u64 1000000000, Value.int .u64 10000000000, Value.int .u64 100000000000, Value.int .u64 1000000000000, Value.int .u64 10000000000000, Value.int .u64 100000000000000, Value.int .u64 1000000000000000, Value.int .u64 10000000000000000, Value.int .u64 100000000000000000, Value.int .u64 1000000000000000000, Value.int .u64 10000000000000000000].toArray te2 fre2), (3, .cells [(n4 q0)].toArray te3 fre3), (2, .cells [(n4 q1)].toArray te4 fre4), (0, .cells [(n4 q2)].toArray te5 fre5), (1, .cells [(n4 q3)].toArray te6 fre6)]) [] (fun o => (∃ (v : Bool), K v ∧ o = .ret (zB v) []) ∨ (False)) := by
 unfold acb at h
 refine d8 (n := 151) (L0 := [(0, w), (1, st data), (2, zI keep)]) Tryd.func3 rfl rfl rfl rfl (fun w0 M Q hE => ?_)
 have hi1 : LIn ⟨151, [], w0, M, (Ri1 ++ [(4, .cells [st ([99, 104, 101, 99, 107] : List UInt8), st ([108] : List UInt8), st ([98] : List UInt8), st ([99, 111, 100, 101] : List UInt8), st ([108] : List UInt8), st ([98] : List UInt8), st ([119, 111, 114, 100, 115] : List UInt8), st ([108] : List UInt8), st ([98, 110] : List UInt8), st ([103, 101, 116] : List UInt8), st ([108, 115] : List UInt8), st ([98, 111] : List UInt8), st ([99, 97, 110, 111, 110] : List UInt8), st ([108, 115] : List UInt8), st ([98, 111] : List UInt8), st ([119, 104, 101, 114, 101] : List UInt8), st ([108, 115] : List UInt8), st ([98] : List UInt8), st ([115, 116, 114, 101, 97, 109] : List UInt8), st ([108, 115] : List UInt8), st ([98, 99] : List UInt8), st ([99, 114, 101, 97, 116, 101] : List UInt8), st ([108, 118] : List UInt8), st ([98, 111] : List UInt8), st ([112, 117, 116] : List UInt8), st ([108, 118, 115] : List UInt8), st ([98, 111] : List UInt8), st ([101, 100, 105, 116] : List UInt8), st ([108, 115, 97, 100, 116] : List UInt8), st ([98, 111] : List UInt8)].toArray te fre), (6, .cells [Value.int .u64 1, Value.int .u64 10, Value.int .u64 100, Value.int .u64 1000, Value.int .u64 10000, Value.int .u64 100000, Value.int .u64 1000000, Value.int .u64 10000000, Value.int .u64 100000000, Value.int .u64 1000000000, Value.int .u64 10000000000, Value.int .u64 100000000000, Value.int .u64 1000000000000, Value.int .u64 10000000000000, Value.int .u64 100000000000000, Value.int .u64 1000000000000000, Value.int .u64 10000000000000000, Value.int .u64 100000000000000000, Value.int .u64 1000000000000000000, Value.int .u64 10000000000000000000].toArray te2 fre2), (3, .cells [(n4 q0)].toArray te3 fre3), (2, .cells [(n4 q1)].toArray te4 fre4), (0, .cells [(n4 q2)].toArray te5 fre5), (1, .cells [(n4 q3)].toArray te6 fre6)])⟩ w argv.length (argv.flatMap m9) := LIn.mk hRi1 (fun p hp => by simp [hp])
 refine a7 (fun _ hK => ?_)
 refine a6 ?_
 refine wA ?_
 refine WL.nil ?_
 refine kg (hK [(0, w), (1, st data), (2, zI keep)] _ ?_)
 refine a7 (fun _ hK_1' => ?_)
 refine a6 ?_
 refine WL.make (MV.buildSlice (cs := [st ([112, 117, 116] : List UInt8), st ([108] : List UInt8), st ([118] : List UInt8), st ([115] : List UInt8)]) rfl g9 (by kernel_rfl)) rfl rfl rfl (fun b => ?_)
 refine WL.asRow (f := m9) (ms := [([112, 117, 116] : List UInt8), ([108] : List UInt8), ([118] : List UInt8), ([115] : List UInt8)]) 0 rfl rfl rfl l9 rfl ?_
 obtain ⟨o, h⟩ := h
 refine WL.call1 (A := []) ado rfl (acg te fre (Value.slice (some ⟨b, 0, none⟩) 4 4) [([112, 117, 116] : List UInt8), ([108] : List UInt8), ([118] : List UInt8), ([115] : List UInt8)] o) rfl (LOk.row 0 rfl) ⟨.inr (List.mem_append_right _ (List.mem_of_getElem? (i := 0) rfl)), trivial⟩ rfl rfl ?_
 refine wm ?_
 refine wv (OV.extract 0 rfl rfl) ?_
 refine wv (OV.extract 1 rfl rfl) ?_
 refine WL.make (MV.alloc acf) rfl rfl rfl (fun b_1' => ?_)
 refine WL.make (MV.alloc ab7) rfl rfl rfl (fun b_2' => ?_)
 refine WL.storeW (vs := [st ((a8 [([112, 117, 116] : List UInt8), ([108] : List UInt8), ([118] : List UInt8), ([115] : List UInt8)]).1), st ((a8 [([112, 117, 116] : List UInt8), ([108] : List UInt8), ([118] : List UInt8), ([115] : List UInt8)]).2.1), st ((a8 [([112, 117, 116] : List UInt8), ([108] : List UInt8), ([118] : List UInt8), ([115] : List UInt8)]).2.2.1), st ((a8 [([112, 117, 116] : List UInt8), ([108] : List UInt8), ([118] : List UInt8), ([115] : List UInt8)]).2.2.2.1), st ((a8 [([112, 117, 116] : List UInt8), ([108] : List UInt8), ([118] : List UInt8), ([115] : List UInt8)]).2.2.2.2.1), zI ((a8 [([112, 117, 116] : List UInt8), ([108] : List UInt8), ([118] : List UInt8), ([115] : List UInt8)]).2.2.2.2.2.1), zI ((a8 [([112, 117, 116] : List UInt8), ([108] : List UInt8), ([118] : List UInt8), ([115] : List UInt8)]).2.2.2.2.2.2.1), zI ((a8 [([112, 117, 116] : List UInt8), ([108] : List UInt8), ([118] : List UInt8), ([115] : List UInt8)]).2.2.2.2.2.2.2.1), zI ((a8 [([112, 117, 116] : List UInt8), ([108] : List UInt8), ([118] : List UInt8), ([115] : List UInt8)]).2.2.2.2.2.2.2.2.1), zI ((a8 [([112, 117, 116] : List UInt8), ([108] : List UInt8), ([118] : List UInt8), ([115] : List UInt8)]).2.2.2.2.2.2.2.2.2.1), st ((a8 [([112, 117, 116] : List UInt8), ([108] : List UInt8), ([118] : List UInt8), ([115] : List UInt8)]).2.2.2.2.2.2.2.2.2.2)]) 1 rfl rfl rfl rfl rfl y7 rfl rfl rfl ?_
 refine WL.storeW (vs := [zI ((j9 [([112, 117, 116] : List UInt8), ([108] : List UInt8), ([118] : List UInt8), ([115] : List UInt8)]).1), zI ((j9 [([112, 117, 116] : List UInt8), ([108] : List UInt8), ([118] : List UInt8), ([115] : List UInt8)]).2.1), st ((j9 [([112, 117, 116] : List UInt8), ([108] : List UInt8), ([118] : List UInt8), ([115] : List UInt8)]).2.2)]) 0 rfl rfl rfl rfl rfl y3 rfl rfl rfl ?_
 refine WL.nil ?_
 refine kg (hK_1' [(0, w), (1, st data), (2, zI keep), (7, zP b_1'), (8, zP b_2')] _ ?_)
 refine a7 (fun _ hK_2' => ?_)
 refine a7 (fun _ hK_3' => ?_)
 refine a6 ?_
 refine wv (OV.loadR rfl (At.own 0 rfl) aap) ?_
 refine wv (OV.build rfl (cs := [zI 0, zI 0, st []]) rfl) ?_
 refine wv (OV.neqF (rs := [decide ((j9 [([112, 117, 116] : List UInt8), ([108] : List UInt8), ([118] : List UInt8), ([115] : List UInt8)]).1 = 0), decide ((j9 [([112, 117, 116] : List UInt8), ([108] : List UInt8), ([118] : List UInt8), ([115] : List UInt8)]).2.1 = 0), decide ((j9 [([112, 117, 116] : List UInt8), ([108] : List UInt8), ([118] : List UInt8), ([115] : List UInt8)]).2.2 = [])]) rfl rfl Tryd.underlying27 aba acx ⟨rfl, aar, ⟨_, _, rfl, rfl, j8.int Tryd.underlying25⟩, ⟨rfl, d6, ⟨_, _, rfl, rfl, j8.int Tryd.underlying3⟩, ⟨rfl, d3, ⟨_, _, rfl, rfl, j8.str Tryd.underlying9⟩, trivial⟩⟩⟩) ?_
 refine wm ?_
 refine WL.cut 4 [(0, w), (1, st data), (2, zI keep), (7, zP b_1'), (8, zP b_2'), (32, zB ((!k8 [decide ((j9 [([112, 117, 116] : List UInt8), ([108] : List UInt8), ([118] : List UInt8), ([115] : List UInt8)]).1 = 0), decide ((j9 [([112, 117, 116] : List UInt8), ([108] : List UInt8), ([118] : List UInt8), ([115] : List UInt8)]).2.1 = 0), decide ((j9 [([112, 117, 116] : List UInt8), ([108] : List UInt8), ([118] : List UInt8), ([115] : List UInt8)]).2.2 = [])]) || (!decide ((a8 [([112, 117, 116] : List UInt8), ([108] : List UInt8), ([118] : List UInt8), ([115] : List UInt8)]).2.2.2.1 = ([115] : List UInt8)))))] ?_ (fun K0_4' hK_4' => ?_)
 rotate_left
 ·refine WL.split (!k8 [decide ((j9 [([112, 117, 116] : List UInt8), ([108] : List UInt8), ([118] : List UInt8), ([115] : List UInt8)]).1 = 0), decide ((j9 [([112, 117, 116] : List UInt8), ([108] : List UInt8), ([118] : List UInt8), ([115] : List UInt8)]).2.1 = 0), decide ((j9 [([112, 117, 116] : List UInt8), ([108] : List UInt8), ([118] : List UInt8), ([115] : List UInt8)]).2.2 = [])]) (fun hb => ?_) (fun hb => ?_)
  ·refine WL.set 28 rfl (congrArg zB hb) ?_
   refine wk ?_
   refine wk ?_
   refine wk ?_
   refine wv (OV.pickT rfl rfl) ?_
   refine WL.set 32 rfl (oT (v := !decide ((a8 [([112, 117, 116] : List UInt8), ([108] : List UInt8), ([118] : List UInt8), ([115] : List UInt8)]).2.2.2.1 = ([115] : List UInt8))) hb) ?_
   exact WL.end_ (kg hK_4')
  ·refine WL.set 28 rfl (congrArg zB hb) ?_
   refine wv (OV.fieldAddr0 rfl aag) ?_
   refine wv (OV.load rfl (At.own 1 rfl) rfl d3) ?_
   refine wv (OV.neqS rfl rfl) ?_
   refine wv (OV.pickF rfl rfl) ?_
   refine WL.set 32 rfl (oF (v := !decide ((a8 [([112, 117, 116] : List UInt8), ([108] : List UInt8), ([118] : List UInt8), ([115] : List UInt8)]).2.2.2.1 = ([115] : List UInt8))) hb) ?_
   exact WL.end_ (kg hK_4')
 refine WL.nil ?_
 refine kg (hK_3' [(0, w), (1, st data), (2, zI keep), (7, zP b_1'), (8, zP b_2'), (32, zB ((!k8 [decide ((j9 [([112, 117, 116] : List UInt8), ([108] : List UInt8), ([118] : List UInt8), ([115] : List UInt8)]).1 = 0), decide ((j9 [([112, 117, 116] : List UInt8), ([108] : List UInt8), ([118] : List UInt8), ([115] : List UInt8)]).2.1 = 0), decide ((j9 [([112, 117, 116] : List UInt8), ([108] : List UInt8), ([118] : List UInt8), ([115] : List UInt8)]).2.2 = [])]) || (!decide ((a8 [([112, 117, 116] : List UInt8), ([108] : List UInt8), ([118] : List UInt8), ([115] : List UInt8)]).2.2.2.1 = ([115] : List UInt8)))))] _ ?_)
 refine d4 (b := (!k8 [decide ((j9 [([112, 117, 116] : List UInt8), ([108] : List UInt8), ([118] : List UInt8), ([115] : List UInt8)]).1 = 0), decide ((j9 [([112, 117, 116] : List UInt8), ([108] : List UInt8), ([118] : List UInt8), ([115] : List UInt8)]).2.1 = 0), decide ((j9 [([112, 117, 116] : List UInt8), ([108] : List UInt8), ([118] : List UInt8), ([115] : List UInt8)]).2.2 = [])]) || (!decide ((a8 [([112, 117, 116] : List UInt8), ([108] : List UInt8), ([118] : List UInt8), ([115] : List UInt8)]).2.2.2.1 = ([115] : List UInt8)))) rfl (fun hb => ?_) (fun hb => ?_)
 ·replace h := k9 h hb
  refine a7 (fun _ hK_5' => ?_)
  refine a6 ?_
  refine wA ?_
  refine WL.nil ?_
  refine kg (hK_5' [(6, zB false)] _ ?_)
  refine e7 ?_
  exact hE.ret [] rfl rfl (.inl ⟨_, h, rfl⟩) (j6.of1 rfl (RV.tmp rfl))
 ·replace h := l6 h hb
  refine b8 ?_
  refine kg (hK_2' [(0, w), (1, st data), (2, zI keep), (7, zP b_1'), (8, zP b_2')] _ ?_)
  refine a7 (fun _ hK_6' => ?_)
  refine a6 ?_
  refine WL.make (MV.buildSlice0 g9) rfl rfl rfl (fun b_3' => ?_)
  refine WL.asRow (f := m9) (ms := []) 0 rfl rfl rfl l9 rfl ?_
  refine wm ?_
  obtain ⟨o_2', h⟩ := h
  refine WL.appendIn (f := m9) (ms := argv) 0 rfl rfl hi1 rfl l9 (by decide) (fun x => rfl) g9 p6 rfl o_2' rfl rfl (fun w_1' => ?_)
  obtain ⟨o_3', h⟩ := h
  refine WL.call1 (A := []) ado rfl (acg te fre w_1' argv o_3') rfl (LOk.row 0 rfl) ⟨.inr (List.mem_append_right _ (List.mem_of_getElem? (i := 0) rfl)), trivial⟩ rfl rfl ?_
  refine wm ?_
  refine wv (OV.extract 0 rfl rfl) ?_
  refine wv (OV.extract 1 rfl rfl) ?_
  refine WL.storeW (vs := [st ((a8 argv).1), st ((a8 argv).2.1), st ((a8 argv).2.2.1), st ((a8 argv).2.2.2.1), st ((a8 argv).2.2.2.2.1), zI ((a8 argv).2.2.2.2.2.1), zI ((a8 argv).2.2.2.2.2.2.1), zI ((a8 argv).2.2.2.2.2.2.2.1), zI ((a8 argv).2.2.2.2.2.2.2.2.1), zI ((a8 argv).2.2.2.2.2.2.2.2.2.1), st ((a8 argv).2.2.2.2.2.2.2.2.2.2)]) 2 rfl rfl rfl rfl rfl y7 rfl rfl rfl ?_
  refine WL.storeW (vs := [zI ((j9 argv).1), zI ((j9 argv).2.1), st ((j9 argv).2.2)]) 1 rfl rfl rfl rfl rfl y3 rfl rfl rfl ?_
  refine WL.nil ?_
  refine kg (hK_6' [(1, st data), (2, zI keep), (7, zP b_1'), (8, zP b_2')] _ ?_)
  refine a7 (fun _ hK_7' => ?_)
  refine a7 (fun _ hK_8' => ?_)
  refine a6 ?_
  refine wv (OV.loadR rfl (At.own 1 rfl) aap) ?_
  refine wv (OV.build rfl (cs := [zI 0, zI 0, st []]) rfl) ?_
  refine wv (OV.neqF (rs := [decide ((j9 argv).1 = 0), decide ((j9 argv).2.1 = 0), decide ((j9 argv).2.2 = [])]) rfl rfl Tryd.underlying27 aba acx ⟨rfl, aar, ⟨_, _, rfl, rfl, j8.int Tryd.underlying25⟩, ⟨rfl, d6, ⟨_, _, rfl, rfl, j8.int Tryd.underlying3⟩, ⟨rfl, d3, ⟨_, _, rfl, rfl, j8.str Tryd.underlying9⟩, trivial⟩⟩⟩) ?_
  refine WL.nil ?_
  refine kg (hK_8' [(1, st data), (2, zI keep), (7, zP b_1'), (8, zP b_2'), (42, zB (!k8 [decide ((j9 argv).1 = 0), decide ((j9 argv).2.1 = 0), decide ((j9 argv).2.2 = [])]))] _ ?_)
  refine d4 (b := !k8 [decide ((j9 argv).1 = 0), decide ((j9 argv).2.1 = 0), decide ((j9 argv).2.2 = [])]) rfl (fun hb => ?_) (fun hb => ?_)
  ·replace h := k9 h hb
   refine a7 (fun _ hK_9' => ?_)
   refine a6 ?_
   refine wv (OV.loadR rfl (At.own 2 rfl) w2) ?_
   refine wv (OV.build rfl (cs := [st [], st [], st [], st [], st [], zI 0, zI 0, zI 0, zI 0, zI 0, st []]) rfl) ?_
   refine wv (OV.eqlF (rs := [decide ((a8 argv).1 = []), decide ((a8 argv).2.1 = []), decide ((a8 argv).2.2.1 = []), decide ((a8 argv).2.2.2.1 = []), decide ((a8 argv).2.2.2.2.1 = []), decide ((a8 argv).2.2.2.2.2.1 = 0), decide ((a8 argv).2.2.2.2.2.2.1 = 0), decide ((a8 argv).2.2.2.2.2.2.2.1 = 0), decide ((a8 argv).2.2.2.2.2.2.2.2.1 = 0), decide ((a8 argv).2.2.2.2.2.2.2.2.2.1 = 0), decide ((a8 argv).2.2.2.2.2.2.2.2.2.2 = [])]) rfl rfl Tryd.underlying24 ac1 ae5 ⟨rfl, d3, ⟨_, _, rfl, rfl, j8.str Tryd.underlying9⟩, ⟨rfl, d3, ⟨_, _, rfl, rfl, j8.str Tryd.underlying9⟩, ⟨rfl, d3, ⟨_, _, rfl, rfl, j8.str Tryd.underlying9⟩, ⟨rfl, d3, ⟨_, _, rfl, rfl, j8.str Tryd.underlying9⟩, ⟨rfl, d3, ⟨_, _, rfl, rfl, j8.str Tryd.underlying9⟩, ⟨rfl, d6, ⟨_, _, rfl, rfl, j8.int Tryd.underlying3⟩, ⟨rfl, d6, ⟨_, _, rfl, rfl, j8.int Tryd.underlying3⟩, ⟨rfl, d6, ⟨_, _, rfl, rfl, j8.int Tryd.underlying3⟩, ⟨rfl, d6, ⟨_, _, rfl, rfl, j8.int Tryd.underlying3⟩, ⟨rfl, d6, ⟨_, _, rfl, rfl, j8.int Tryd.underlying3⟩, ⟨rfl, d3, ⟨_, _, rfl, rfl, j8.str Tryd.underlying9⟩, trivial⟩⟩⟩⟩⟩⟩⟩⟩⟩⟩⟩) ?_
   refine wm ?_
   refine WL.cut 4 [(50, zB ((k8 [decide ((a8 argv).1 = []), decide ((a8 argv).2.1 = []), decide ((a8 argv).2.2.1 = []), decide ((a8 argv).2.2.2.1 = []), decide ((a8 argv).2.2.2.2.1 = []), decide ((a8 argv).2.2.2.2.2.1 = 0), decide ((a8 argv).2.2.2.2.2.2.1 = 0), decide ((a8 argv).2.2.2.2.2.2.2.1 = 0), decide ((a8 argv).2.2.2.2.2.2.2.2.1 = 0), decide ((a8 argv).2.2.2.2.2.2.2.2.2.1 = 0), decide ((a8 argv).2.2.2.2.2.2.2.2.2.2 = [])]) && (decide ((j9 argv).1 = 140))))] ?_ (fun K0_10' hK_10' => ?_)
   rotate_left
   ·refine WL.split (k8 [decide ((a8 argv).1 = []), decide ((a8 argv).2.1 = []), decide ((a8 argv).2.2.1 = []), decide ((a8 argv).2.2.2.1 = []), decide ((a8 argv).2.2.2.2.1 = []), decide ((a8 argv).2.2.2.2.2.1 = 0), decide ((a8 argv).2.2.2.2.2.2.1 = 0), decide ((a8 argv).2.2.2.2.2.2.2.1 = 0), decide ((a8 argv).2.2.2.2.2.2.2.2.1 = 0), decide ((a8 argv).2.2.2.2.2.2.2.2.2.1 = 0), decide ((a8 argv).2.2.2.2.2.2.2.2.2.2 = [])]) (fun hb => ?_) (fun hb => ?_)
    ·refine WL.set 46 rfl (congrArg zB hb) ?_
     refine wv (OV.fieldAddr0 rfl ae0) ?_
     refine wv (OV.load rfl (At.own 1 rfl) rfl aar) ?_
     refine wv (OV.eql rfl rfl) ?_
     refine wv (OV.pickT rfl rfl) ?_
     refine WL.set 50 rfl (bT (v := decide ((j9 argv).1 = 140)) hb) ?_
     exact WL.end_ (kg hK_10')
    ·refine WL.set 46 rfl (congrArg zB hb) ?_
     refine wk ?_
     refine wk ?_
     refine wk ?_
     refine wv (OV.pickF rfl rfl) ?_
     refine WL.set 50 rfl (bF (v := decide ((j9 argv).1 = 140)) hb) ?_
     exact WL.end_ (kg hK_10')
   refine wA ?_
   refine WL.nil ?_
   refine kg (hK_9' [(6, zB ((k8 [decide ((a8 argv).1 = []), decide ((a8 argv).2.1 = []), decide ((a8 argv).2.2.1 = []), decide ((a8 argv).2.2.2.1 = []), decide ((a8 argv).2.2.2.2.1 = []), decide ((a8 argv).2.2.2.2.2.1 = 0), decide ((a8 argv).2.2.2.2.2.2.1 = 0), decide ((a8 argv).2.2.2.2.2.2.2.1 = 0), decide ((a8 argv).2.2.2.2.2.2.2.2.1 = 0), decide ((a8 argv).2.2.2.2.2.2.2.2.2.1 = 0), decide ((a8 argv).2.2.2.2.2.2.2.2.2.2 = [])]) && (decide ((j9 argv).1 = 140))))] _ ?_)
   refine e7 ?_
   exact hE.ret [] rfl rfl (.inl ⟨_, h, rfl⟩) (j6.of1 rfl (RV.tmp rfl))
  ·replace h := l6 h hb
   refine b8 ?_
   refine kg (hK_7' [(1, st data), (2, zI keep), (7, zP b_1')] _ ?_)
   refine a7 (fun _ hK_11' => ?_)
   refine a6 ?_
   refine wv (OV.loadR rfl (At.own 2 rfl) w2) ?_
   obtain ⟨o_5', h⟩ := h
   refine WL.callS aks rfl (ajo te fre te2 fre2 (a8 argv) o_5') rfl ⟨.inr (List.mem_append_right _ (List.mem_of_getElem? (i := 0) rfl)), ⟨.inr (List.mem_append_right _ (List.mem_of_getElem? (i := 1) rfl)), trivial⟩⟩ rfl rfl (fun r H' hS => ?_) (fun c H' hS => ?_)
   ·obtain ⟨w_2', ho⟩ := hS
    obtain ⟨hr1, hr2⟩ := Out.ret.inj ho
    subst hr2
    replace hr1 := hr1.symm
    subst hr1
    obtain ⟨o_6', h⟩ := h
    refine WL.call1 (A := []) ado rfl (acg te fre w_2' (b7 (a8 argv)) o_6') rfl (LOk.row 0 rfl) ⟨.inr (List.mem_append_right _ (List.mem_of_getElem? (i := 0) rfl)), trivial⟩ rfl rfl ?_
    refine wm ?_
    refine wv (OV.extract 0 rfl rfl) ?_
    refine wv (OV.extract 1 rfl rfl) ?_
    refine WL.make (MV.alloc acf) rfl rfl rfl (fun b_4' => ?_)
    refine WL.make (MV.alloc ab7) rfl rfl rfl (fun b_5' => ?_)
    refine WL.storeW (vs := [st ((a8 (b7 (a8 argv))).1), st ((a8 (b7 (a8 argv))).2.1), st ((a8 (b7 (a8 argv))).2.2.1), st ((a8 (b7 (a8 argv))).2.2.2.1), st ((a8 (b7 (a8 argv))).2.2.2.2.1), zI ((a8 (b7 (a8 argv))).2.2.2.2.2.1), zI ((a8 (b7 (a8 argv))).2.2.2.2.2.2.1), zI ((a8 (b7 (a8 argv))).2.2.2.2.2.2.2.1), zI ((a8 (b7 (a8 argv))).2.2.2.2.2.2.2.2.1), zI ((a8 (b7 (a8 argv))).2.2.2.2.2.2.2.2.2.1), st ((a8 (b7 (a8 argv))).2.2.2.2.2.2.2.2.2.2)]) 1 rfl rfl rfl rfl rfl y7 rfl rfl rfl ?_
    refine WL.storeW (vs := [zI ((j9 (b7 (a8 argv))).1), zI ((j9 (b7 (a8 argv))).2.1), st ((j9 (b7 (a8 argv))).2.2)]) 0 rfl rfl rfl rfl rfl y3 rfl rfl rfl ?_
    refine WL.nil ?_
    refine kg (hK_11' [(1, st data), (2, zI keep), (7, zP b_1'), (9, zP b_4'), (10, zP b_5')] _ ?_)
    refine a7 (fun _ hK_12' => ?_)
    refine a7 (fun _ hK_13' => ?_)
    refine a6 ?_
    refine wv (OV.loadR rfl (At.own 0 rfl) aap) ?_
    refine wv (OV.build rfl (cs := [zI 0, zI 0, st []]) rfl) ?_
    refine wv (OV.neqF (rs := [decide ((j9 (b7 (a8 argv))).1 = 0), decide ((j9 (b7 (a8 argv))).2.1 = 0), decide ((j9 (b7 (a8 argv))).2.2 = [])]) rfl rfl Tryd.underlying27 aba acx ⟨rfl, aar, ⟨_, _, rfl, rfl, j8.int Tryd.underlying25⟩, ⟨rfl, d6, ⟨_, _, rfl, rfl, j8.int Tryd.underlying3⟩, ⟨rfl, d3, ⟨_, _, rfl, rfl, j8.str Tryd.underlying9⟩, trivial⟩⟩⟩) ?_
    refine wm ?_
    refine WL.cut 4 [(1, st data), (2, zI keep), (7, zP b_1'), (9, zP b_4'), (64, zB ((!k8 [decide ((j9 (b7 (a8 argv))).1 = 0), decide ((j9 (b7 (a8 argv))).2.1 = 0), decide ((j9 (b7 (a8 argv))).2.2 = [])]) || (!k8 [decide ((a8 (b7 (a8 argv))).1 = (a8 argv).1), decide ((a8 (b7 (a8 argv))).2.1 = (a8 argv).2.1), decide ((a8 (b7 (a8 argv))).2.2.1 = (a8 argv).2.2.1), decide ((a8 (b7 (a8 argv))).2.2.2.1 = (a8 argv).2.2.2.1), decide ((a8 (b7 (a8 argv))).2.2.2.2.1 = (a8 argv).2.2.2.2.1), decide ((a8 (b7 (a8 argv))).2.2.2.2.2.1 = (a8 argv).2.2.2.2.2.1), decide ((a8 (b7 (a8 argv))).2.2.2.2.2.2.1 = (a8 argv).2.2.2.2.2.2.1), decide ((a8 (b7 (a8 argv))).2.2.2.2.2.2.2.1 = (a8 argv).2.2.2.2.2.2.2.1), decide ((a8 (b7 (a8 argv))).2.2.2.2.2.2.2.2.1 = (a8 argv).2.2.2.2.2.2.2.2.1), decide ((a8 (b7 (a8 argv))).2.2.2.2.2.2.2.2.2.1 = (a8 argv).2.2.2.2.2.2.2.2.2.1), decide ((a8 (b7 (a8 argv))).2.2.2.2.2.2.2.2.2.2 = (a8 argv).2.2.2.2.2.2.2.2.2.2)])))] ?_ (fun K0_14' hK_14' => ?_)
    rotate_left
    ·refine WL.split (!k8 [decide ((j9 (b7 (a8 argv))).1 = 0), decide ((j9 (b7 (a8 argv))).2.1 = 0), decide ((j9 (b7 (a8 argv))).2.2 = [])]) (fun hb => ?_) (fun hb => ?_)
     ·refine WL.set 60 rfl (congrArg zB hb) ?_
      refine wk ?_
      refine wk ?_
      refine wk ?_
      refine wv (OV.pickT rfl rfl) ?_
      refine WL.set 64 rfl (oT (v := !k8 [decide ((a8 (b7 (a8 argv))).1 = (a8 argv).1), decide ((a8 (b7 (a8 argv))).2.1 = (a8 argv).2.1), decide ((a8 (b7 (a8 argv))).2.2.1 = (a8 argv).2.2.1), decide ((a8 (b7 (a8 argv))).2.2.2.1 = (a8 argv).2.2.2.1), decide ((a8 (b7 (a8 argv))).2.2.2.2.1 = (a8 argv).2.2.2.2.1), decide ((a8 (b7 (a8 argv))).2.2.2.2.2.1 = (a8 argv).2.2.2.2.2.1), decide ((a8 (b7 (a8 argv))).2.2.2.2.2.2.1 = (a8 argv).2.2.2.2.2.2.1), decide ((a8 (b7 (a8 argv))).2.2.2.2.2.2.2.1 = (a8 argv).2.2.2.2.2.2.2.1), decide ((a8 (b7 (a8 argv))).2.2.2.2.2.2.2.2.1 = (a8 argv).2.2.2.2.2.2.2.2.1), decide ((a8 (b7 (a8 argv))).2.2.2.2.2.2.2.2.2.1 = (a8 argv).2.2.2.2.2.2.2.2.2.1), decide ((a8 (b7 (a8 argv))).2.2.2.2.2.2.2.2.2.2 = (a8 argv).2.2.2.2.2.2.2.2.2.2)]) hb) ?_
      exact WL.end_ (kg hK_14')
     ·refine WL.set 60 rfl (congrArg zB hb) ?_
      refine wv (OV.loadR rfl (At.own 1 rfl) w2) ?_
      refine wv (OV.loadR rfl (At.own 5 rfl) w2) ?_
      refine wv (OV.neqF (rs := [decide ((a8 (b7 (a8 argv))).1 = (a8 argv).1), decide ((a8 (b7 (a8 argv))).2.1 = (a8 argv).2.1), decide ((a8 (b7 (a8 argv))).2.2.1 = (a8 argv).2.2.1), decide ((a8 (b7 (a8 argv))).2.2.2.1 = (a8 argv).2.2.2.1), decide ((a8 (b7 (a8 argv))).2.2.2.2.1 = (a8 argv).2.2.2.2.1), decide ((a8 (b7 (a8 argv))).2.2.2.2.2.1 = (a8 argv).2.2.2.2.2.1), decide ((a8 (b7 (a8 argv))).2.2.2.2.2.2.1 = (a8 argv).2.2.2.2.2.2.1), decide ((a8 (b7 (a8 argv))).2.2.2.2.2.2.2.1 = (a8 argv).2.2.2.2.2.2.2.1), decide ((a8 (b7 (a8 argv))).2.2.2.2.2.2.2.2.1 = (a8 argv).2.2.2.2.2.2.2.2.1), decide ((a8 (b7 (a8 argv))).2.2.2.2.2.2.2.2.2.1 = (a8 argv).2.2.2.2.2.2.2.2.2.1), decide ((a8 (b7 (a8 argv))).2.2.2.2.2.2.2.2.2.2 = (a8 argv).2.2.2.2.2.2.2.2.2.2)]) rfl rfl Tryd.underlying24 ac1 ae5 ⟨rfl, d3, ⟨_, _, rfl, rfl, j8.str Tryd.underlying9⟩, ⟨rfl, d3, ⟨_, _, rfl, rfl, j8.str Tryd.underlying9⟩, ⟨rfl, d3, ⟨_, _, rfl, rfl, j8.str Tryd.underlying9⟩, ⟨rfl, d3, ⟨_, _, rfl, rfl, j8.str Tryd.underlying9⟩, ⟨rfl, d3, ⟨_, _, rfl, rfl, j8.str Tryd.underlying9⟩, ⟨rfl, d6, ⟨_, _, rfl, rfl, j8.int Tryd.underlying3⟩, ⟨rfl, d6, ⟨_, _, rfl, rfl, j8.int Tryd.underlying3⟩, ⟨rfl, d6, ⟨_, _, rfl, rfl, j8.int Tryd.underlying3⟩, ⟨rfl, d6, ⟨_, _, rfl, rfl, j8.int Tryd.underlying3⟩, ⟨rfl, d6, ⟨_, _, rfl, rfl, j8.int Tryd.underlying3⟩, ⟨rfl, d3, ⟨_, _, rfl, rfl, j8.str Tryd.underlying9⟩, trivial⟩⟩⟩⟩⟩⟩⟩⟩⟩⟩⟩) ?_
      refine wv (OV.pickF rfl rfl) ?_
      refine WL.set 64 rfl (oF (v := !k8 [decide ((a8 (b7 (a8 argv))).1 = (a8 argv).1), decide ((a8 (b7 (a8 argv))).2.1 = (a8 argv).2.1), decide ((a8 (b7 (a8 argv))).2.2.1 = (a8 argv).2.2.1), decide ((a8 (b7 (a8 argv))).2.2.2.1 = (a8 argv).2.2.2.1), decide ((a8 (b7 (a8 argv))).2.2.2.2.1 = (a8 argv).2.2.2.2.1), decide ((a8 (b7 (a8 argv))).2.2.2.2.2.1 = (a8 argv).2.2.2.2.2.1), decide ((a8 (b7 (a8 argv))).2.2.2.2.2.2.1 = (a8 argv).2.2.2.2.2.2.1), decide ((a8 (b7 (a8 argv))).2.2.2.2.2.2.2.1 = (a8 argv).2.2.2.2.2.2.2.1), decide ((a8 (b7 (a8 argv))).2.2.2.2.2.2.2.2.1 = (a8 argv).2.2.2.2.2.2.2.2.1), decide ((a8 (b7 (a8 argv))).2.2.2.2.2.2.2.2.2.1 = (a8 argv).2.2.2.2.2.2.2.2.2.1), decide ((a8 (b7 (a8 argv))).2.2.2.2.2.2.2.2.2.2 = (a8 argv).2.2.2.2.2.2.2.2.2.2)]) hb) ?_
      exact WL.end_ (kg hK_14')
    refine WL.nil ?_
    refine kg (hK_13' [(1, st data), (2, zI keep), (7, zP b_1'), (9, zP b_4'), (64, zB ((!k8 [decide ((j9 (b7 (a8 argv))).1 = 0), decide ((j9 (b7 (a8 argv))).2.1 = 0), decide ((j9 (b7 (a8 argv))).2.2 = [])]) || (!k8 [decide ((a8 (b7 (a8 argv))).1 = (a8 argv).1), decide ((a8 (b7 (a8 argv))).2.1 = (a8 argv).2.1), decide ((a8 (b7 (a8 argv))).2.2.1 = (a8 argv).2.2.1), decide ((a8 (b7 (a8 argv))).2.2.2.1 = (a8 argv).2.2.2.1), decide ((a8 (b7 (a8 argv))).2.2.2.2.1 = (a8 argv).2.2.2.2.1), decide ((a8 (b7 (a8 argv))).2.2.2.2.2.1 = (a8 argv).2.2.2.2.2.1), decide ((a8 (b7 (a8 argv))).2.2.2.2.2.2.1 = (a8 argv).2.2.2.2.2.2.1), decide ((a8 (b7 (a8 argv))).2.2.2.2.2.2.2.1 = (a8 argv).2.2.2.2.2.2.2.1), decide ((a8 (b7 (a8 argv))).2.2.2.2.2.2.2.2.1 = (a8 argv).2.2.2.2.2.2.2.2.1), decide ((a8 (b7 (a8 argv))).2.2.2.2.2.2.2.2.2.1 = (a8 argv).2.2.2.2.2.2.2.2.2.1), decide ((a8 (b7 (a8 argv))).2.2.2.2.2.2.2.2.2.2 = (a8 argv).2.2.2.2.2.2.2.2.2.2)])))] _ ?_)
    refine d4 (b := (!k8 [decide ((j9 (b7 (a8 argv))).1 = 0), decide ((j9 (b7 (a8 argv))).2.1 = 0), decide ((j9 (b7 (a8 argv))).2.2 = [])]) || (!k8 [decide ((a8 (b7 (a8 argv))).1 = (a8 argv).1), decide ((a8 (b7 (a8 argv))).2.1 = (a8 argv).2.1), decide ((a8 (b7 (a8 argv))).2.2.1 = (a8 argv).2.2.1), decide ((a8 (b7 (a8 argv))).2.2.2.1 = (a8 argv).2.2.2.1), decide ((a8 (b7 (a8 argv))).2.2.2.2.1 = (a8 argv).2.2.2.2.1), decide ((a8 (b7 (a8 argv))).2.2.2.2.2.1 = (a8 argv).2.2.2.2.2.1), decide ((a8 (b7 (a8 argv))).2.2.2.2.2.2.1 = (a8 argv).2.2.2.2.2.2.1), decide ((a8 (b7 (a8 argv))).2.2.2.2.2.2.2.1 = (a8 argv).2.2.2.2.2.2.2.1), decide ((a8 (b7 (a8 argv))).2.2.2.2.2.2.2.2.1 = (a8 argv).2.2.2.2.2.2.2.2.1), decide ((a8 (b7 (a8 argv))).2.2.2.2.2.2.2.2.2.1 = (a8 argv).2.2.2.2.2.2.2.2.2.1), decide ((a8 (b7 (a8 argv))).2.2.2.2.2.2.2.2.2.2 = (a8 argv).2.2.2.2.2.2.2.2.2.2)])) rfl (fun hb => ?_) (fun hb => ?_)
    ·replace h := k9 h hb
     refine a7 (fun _ hK_15' => ?_)
     refine a6 ?_
     refine wA ?_
     refine WL.nil ?_
     refine kg (hK_15' [(6, zB false)] _ ?_)
     refine e7 ?_
     exact hE.ret [] rfl rfl (.inl ⟨_, h, rfl⟩) (j6.of1 rfl (RV.tmp rfl))
    ·replace h := l6 h hb
     refine b8 ?_
     refine kg (hK_12' [(1, st data), (2, zI keep), (7, zP b_1'), (9, zP b_4')] _ ?_)
     refine a7 (fun _ hK_16' => ?_)
     refine a6 ?_
     refine wv (OV.build rfl (cs := [st ([108] : List UInt8), st ([111, 108, 100] : List UInt8)]) rfl) ?_
     refine wv (OV.build rfl (cs := [st ([111, 116, 104, 101, 114] : List UInt8), st ([115, 116, 97, 121, 115] : List UInt8)]) rfl) ?_
     refine WL.make (MV.buildSlice (cs := [st ([108] : List UInt8), st ([111, 108, 100] : List UInt8), st ([111, 116, 104, 101, 114] : List UInt8), st ([115, 116, 97, 121, 115] : List UInt8)]) rfl acm (by kernel_rfl)) rfl rfl rfl (fun b_6' => ?_)
     refine wm ?_
     refine wv (OV.build rfl (cs := [zB true, zI 2, zI keep]) rfl) ?_
     refine WL.make (MV.buildSlice (cs := [zB true, zI 2, zI keep]) rfl ael (by kernel_rfl)) rfl rfl rfl (fun b_7' => ?_)
     obtain ⟨o_8', h⟩ := h
     refine WL.callS aj1 rfl (ajx b_6' b_7' keep o_8') rfl ⟨.inl ⟨1, rfl⟩, ⟨.inl ⟨0, rfl⟩, trivial⟩⟩ rfl rfl (fun r H' hS => ?_) (fun c H' hS => ?_)
     ·obtain ⟨nb, nb_1', nb_2', nb_3', ho⟩ := hS
      cases ho
      refine wA ?_
      refine WL.nil ?_
      refine kg (hK_16' [(1, st data), (2, zI keep), (7, zP b_1'), (9, zP b_4'), (11, zP nb)] _ ?_)
      refine a7 (fun _ hK_17' => ?_)
      refine a6 ?_
      refine wm ?_
      refine wv (OV.fieldAddr0 rfl m8) ?_
      refine wv (OV.load rfl (At.own 11 rfl) rfl d3) ?_
      refine wm ?_
      obtain ⟨o_9', h⟩ := h
      refine WL.callS agn rfl (aem te3 fre3 q0 te4 fre4 q1 te5 fre5 q2 te6 fre6 q3 nb nb_1' nb_2' nb_3' 0 0 fm0 ([] : List (Int × Fl)) (wf0 keep) ((a8 argv).2.1) data o_9') rfl ⟨.inr (List.mem_append_right _ (List.mem_of_getElem? (i := 2) rfl)), ⟨.inr (List.mem_append_right _ (List.mem_of_getElem? (i := 3) rfl)), ⟨.inr (List.mem_append_right _ (List.mem_of_getElem? (i := 4) rfl)), ⟨.inr (List.mem_append_right _ (List.mem_of_getElem? (i := 5) rfl)), trivial⟩⟩⟩⟩ rfl rfl (fun r H' hS => ?_) (fun c H' hS => ?_)
      ·obtain ⟨xe, hc, ho⟩ := hS
       cases ho
       replace h := h xe hc
       refine wA ?_
       refine WL.nil ?_
       refine kg (hK_17' [(1, st data), (2, zI keep), (7, zP b_1'), (9, zP b_4'), (11, zP nb), (12, ab9 xe)] _ ?_)
       refine a7 (fun _ hK_18' => ?_)
       refine a6 ?_
       refine wm ?_
       refine wv (OV.fieldAddr0 rfl m8) ?_
       refine wv (OV.load rfl (At.own 7 rfl) rfl d3) ?_
       obtain ⟨o_10', h⟩ := h
       refine WL.callS aeg rfl (act te3 fre3 q0 te4 fre4 q1 te5 fre5 q2 te6 fre6 q3 nb nb_1' nb_2' nb_3' 0 (0 + 1) ((b9 fm0 (wf0 keep) 0 ((a8 argv).2.1) data).1) ([] : List (Int × Fl)) (wf0 keep) ((a8 (b7 (a8 argv))).2.1) o_10') rfl ⟨.inr (List.mem_append_right _ (List.mem_of_getElem? (i := 2) rfl)), ⟨.inr (List.mem_append_right _ (List.mem_of_getElem? (i := 3) rfl)), ⟨.inr (List.mem_append_right _ (List.mem_of_getElem? (i := 4) rfl)), ⟨.inr (List.mem_append_right _ (List.mem_of_getElem? (i := 5) rfl)), trivial⟩⟩⟩⟩ rfl rfl (fun r H' hS => ?_) (fun c H' hS => ?_)
       ·obtain ⟨xe_1', hc, ho⟩ := hS
        cases ho
        replace h := h xe_1' hc
        refine wm ?_
        refine wv (OV.extract 0 rfl rfl) ?_
        refine wv (OV.extract 1 rfl rfl) ?_
        refine wA ?_
        refine wA ?_
        refine WL.nil ?_
        refine kg (hK_18' [(1, st data), (2, zI keep), (7, zP b_1'), (9, zP b_4'), (11, zP nb), (12, ab9 xe), (13, st ((j3 ((b9 fm0 (wf0 keep) 0 ((a8 argv).2.1) data).1) ([] : List (Int × Fl)) 0 ((a8 (b7 (a8 argv))).2.1)).1)), (14, ab9 xe_1')] _ ?_)
        obtain ⟨J0, hJ, h⟩ := h
        refine q7 (X := Unit) (fun _ => J0) (fun _ => [(1, st data), (2, zI keep), (7, zP b_1'), (9, zP b_4'), (11, zP nb)]) (fun _ => [HA.blk nb (.cells [Value.map (some nb_1'), zI (0 + 1), Value.map (some nb_2'), zI (0 + 1), Value.map (some nb_3')].toArray 61 (0, 0)), mapE Tryd.prog 9 nb_1' (prL klS r9 ((b9 fm0 (wf0 keep) 0 ((a8 argv).2.1) data).1)), mapE Tryd.prog 3 nb_2' (prL klI f7 ([] : List (Int × Fl))), mapE Tryd.prog 3 nb_3' (prL klI f7 (wf0 keep)), HA.blk b_4' (.cells [st ((a8 (b7 (a8 argv))).1), st ((a8 (b7 (a8 argv))).2.1), st ((a8 (b7 (a8 argv))).2.2.1), st ((a8 (b7 (a8 argv))).2.2.2.1), st ((a8 (b7 (a8 argv))).2.2.2.2.1), zI ((a8 (b7 (a8 argv))).2.2.2.2.2.1), zI ((a8 (b7 (a8 argv))).2.2.2.2.2.2.1), zI ((a8 (b7 (a8 argv))).2.2.2.2.2.2.2.1), zI ((a8 (b7 (a8 argv))).2.2.2.2.2.2.2.2.1), zI ((a8 (b7 (a8 argv))).2.2.2.2.2.2.2.2.2.1), st ((a8 (b7 (a8 argv))).2.2.2.2.2.2.2.2.2.2)].toArray 24 (0, 0)), HA.blk b_1' (.cells [st ((a8 argv).1), st ((a8 argv).2.1), st ((a8 argv).2.2.1), st ((a8 argv).2.2.2.1), st ((a8 argv).2.2.2.2.1), zI ((a8 argv).2.2.2.2.2.1), zI ((a8 argv).2.2.2.2.2.2.1), zI ((a8 argv).2.2.2.2.2.2.2.1), zI ((a8 argv).2.2.2.2.2.2.2.2.1), zI ((a8 argv).2.2.2.2.2.2.2.2.2.1), st ((a8 argv).2.2.2.2.2.2.2.2.2.2)].toArray 24 (0, 0))]) ?_ (fun K0_27' hK_27' => ?_)
        ·rintro _ hj
         replace h := hJ () hj
         show WC _ _ _ _ [(1, st data), (2, zI keep), (7, zP b_1'), (9, zP b_4'), (11, zP nb)] [HA.blk nb (.cells [Value.map (some nb_1'), zI (0 + 1), Value.map (some nb_2'), zI (0 + 1), Value.map (some nb_3')].toArray 61 (0, 0)), mapE Tryd.prog 9 nb_1' (prL klS r9 ((b9 fm0 (wf0 keep) 0 ((a8 argv).2.1) data).1)), mapE Tryd.prog 3 nb_2' (prL klI f7 ([] : List (Int × Fl))), mapE Tryd.prog 3 nb_3' (prL klI f7 (wf0 keep)), HA.blk b_4' (.cells [st ((a8 (b7 (a8 argv))).1), st ((a8 (b7 (a8 argv))).2.1), st ((a8 (b7 (a8 argv))).2.2.1), st ((a8 (b7 (a8 argv))).2.2.2.1), st ((a8 (b7 (a8 argv))).2.2.2.2.1), zI ((a8 (b7 (a8 argv))).2.2.2.2.2.1), zI ((a8 (b7 (a8 argv))).2.2.2.2.2.2.1), zI ((a8 (b7 (a8 argv))).2.2.2.2.2.2.2.1), zI ((a8 (b7 (a8 argv))).2.2.2.2.2.2.2.2.1), zI ((a8 (b7 (a8 argv))).2.2.2.2.2.2.2.2.2.1), st ((a8 (b7 (a8 argv))).2.2.2.2.2.2.2.2.2.2)].toArray 24 (0, 0)), HA.blk b_1' (.cells [st ((a8 argv).1), st ((a8 argv).2.1), st ((a8 argv).2.2.1), st ((a8 argv).2.2.2.1), st ((a8 argv).2.2.2.2.1), zI ((a8 argv).2.2.2.2.2.1), zI ((a8 argv).2.2.2.2.2.2.1), zI ((a8 argv).2.2.2.2.2.2.2.1), zI ((a8 argv).2.2.2.2.2.2.2.2.1), zI ((a8 argv).2.2.2.2.2.2.2.2.2.1), st ((a8 argv).2.2.2.2.2.2.2.2.2.2)].toArray 24 (0, 0))]
         refine a7 (fun _ hK_28' => ?_)
         refine a6 ?_
         refine wm ?_
         refine wv (OV.fieldAddr0 rfl m8) ?_
         refine wv (OV.load rfl (At.own 5 rfl) rfl d3) ?_
         obtain ⟨o_15', h⟩ := h
         refine WL.callS agn rfl (aem te3 fre3 q0 te4 fre4 q1 te5 fre5 q2 te6 fre6 q3 nb nb_1' nb_2' nb_3' (0 + 1) (0 + 1) ((b9 fm0 (wf0 keep) 0 ((a8 argv).2.1) data).1) ([] : List (Int × Fl)) (wf0 keep) ((a8 argv).2.1) ([110, 101, 119, 32, 99, 111, 110, 116, 101, 110, 116, 115] : List UInt8) o_15') rfl ⟨.inr (List.mem_append_right _ (List.mem_of_getElem? (i := 2) rfl)), ⟨.inr (List.mem_append_right _ (List.mem_of_getElem? (i := 3) rfl)), ⟨.inr (List.mem_append_right _ (List.mem_of_getElem? (i := 4) rfl)), ⟨.inr (List.mem_append_right _ (List.mem_of_getElem? (i := 5) rfl)), trivial⟩⟩⟩⟩ rfl rfl (fun r H' hS => ?_) (fun c H' hS => ?_)
         ·obtain ⟨xe_2', hc, ho⟩ := hS
          cases ho
          replace h := h xe_2' hc
          refine wA ?_
          refine WL.nil ?_
          refine kg (hK_28' [(1, st data), (2, zI keep), (7, zP b_1'), (9, zP b_4'), (11, zP nb), (15, ab9 xe_2')] _ ?_)
          refine a7 (fun _ hK_29' => ?_)
          refine a6 ?_
          refine wm ?_
          refine wv (OV.fieldAddr0 rfl m8) ?_
          refine wv (OV.load rfl (At.own 4 rfl) rfl d3) ?_
          obtain ⟨o_16', h⟩ := h
          refine WL.callS aeg rfl (act te3 fre3 q0 te4 fre4 q1 te5 fre5 q2 te6 fre6 q3 nb nb_1' nb_2' nb_3' (0 + 1) ((0 + 1) + 1) ((b9 ((b9 fm0 (wf0 keep) 0 ((a8 argv).2.1) data).1) (wf0 keep) (0 + 1) ((a8 argv).2.1) ([110, 101, 119, 32, 99, 111, 110, 116, 101, 110, 116, 115] : List UInt8)).1) ([] : List (Int × Fl)) (wf0 keep) ((a8 (b7 (a8 argv))).2.1) o_16') rfl ⟨.inr (List.mem_append_right _ (List.mem_of_getElem? (i := 2) rfl)), ⟨.inr (List.mem_append_right _ (List.mem_of_getElem? (i := 3) rfl)), ⟨.inr (List.mem_append_right _ (List.mem_of_getElem? (i := 4) rfl)), ⟨.inr (List.mem_append_right _ (List.mem_of_getElem? (i := 5) rfl)), trivial⟩⟩⟩⟩ rfl rfl (fun r H' hS => ?_) (fun c H' hS => ?_)
          ·obtain ⟨xe_3', hc, ho⟩ := hS
           cases ho
           replace h := h xe_3' hc
           refine wm ?_
           refine wv (OV.extract 0 rfl rfl) ?_
           refine wv (OV.extract 1 rfl rfl) ?_
           refine wA ?_
           refine wA ?_
           refine WL.nil ?_
           refine kg (hK_29' [(1, st data), (2, zI keep), (7, zP b_1'), (11, zP nb), (15, ab9 xe_2'), (16, st ((j3 ((b9 ((b9 fm0 (wf0 keep) 0 ((a8 argv).2.1) data).1) (wf0 keep) (0 + 1) ((a8 argv).2.1) ([110, 101, 119, 32, 99, 111, 110, 116, 101, 110, 116, 115] : List UInt8)).1) ([] : List (Int × Fl)) (0 + 1) ((a8 (b7 (a8 argv))).2.1)).1))] _ ?_)
           refine a7 (fun _ hK_30' => ?_)
           refine a6 ?_
           refine wm ?_
           obtain ⟨o_17', h⟩ := h
           refine WL.callS aeg rfl (act te3 fre3 q0 te4 fre4 q1 te5 fre5 q2 te6 fre6 q3 nb nb_1' nb_2' nb_3' ((0 + 1) + 1) ((0 + 1) + 1) ((b9 ((b9 fm0 (wf0 keep) 0 ((a8 argv).2.1) data).1) (wf0 keep) (0 + 1) ((a8 argv).2.1) ([110, 101, 119, 32, 99, 111, 110, 116, 101, 110, 116, 115] : List UInt8)).1) ([] : List (Int × Fl)) (wf0 keep) ([111, 116, 104, 101, 114] : List UInt8) o_17') rfl ⟨.inr (List.mem_append_right _ (List.mem_of_getElem? (i := 2) rfl)), ⟨.inr (List.mem_append_right _ (List.mem_of_getElem? (i := 3) rfl)), ⟨.inr (List.mem_append_right _ (List.mem_of_getElem? (i := 4) rfl)), ⟨.inr (List.mem_append_right _ (List.mem_of_getElem? (i := 5) rfl)), trivial⟩⟩⟩⟩ rfl rfl (fun r H' hS => ?_) (fun c H' hS => ?_)
           ·obtain ⟨xe_4', hc, ho⟩ := hS
            cases ho
            replace h := h xe_4' hc
            refine wm ?_
            refine wv (OV.extract 0 rfl rfl) ?_
            refine wv (OV.extract 1 rfl rfl) ?_
            refine wA ?_
            refine wA ?_
            refine WL.nil ?_
            refine kg (hK_30' [(1, st data), (2, zI keep), (7, zP b_1'), (15, ab9 xe_2'), (16, st ((j3 ((b9 ((b9 fm0 (wf0 keep) 0 ((a8 argv).2.1) data).1) (wf0 keep) (0 + 1) ((a8 argv).2.1) ([110, 101, 119, 32, 99, 111, 110, 116, 101, 110, 116, 115] : List UInt8)).1) ([] : List (Int × Fl)) (0 + 1) ((a8 (b7 (a8 argv))).2.1)).1)), (18, st ((j3 ((b9 ((b9 fm0 (wf0 keep) 0 ((a8 argv).2.1) data).1) (wf0 keep) (0 + 1) ((a8 argv).2.1) ([110, 101, 119, 32, 99, 111, 110, 116, 101, 110, 116, 115] : List UInt8)).1) ([] : List (Int × Fl)) ((0 + 1) + 1) ([111, 116, 104, 101, 114] : List UInt8)).1)), (19, ab9 xe_4')] _ ?_)
            refine a7 (fun _ hK_31' => ?_)
            refine a7 (fun _ hK_32' => ?_)
            refine a6 ?_
            refine wm ?_
            refine wv (OV.eqlErr rfl Tryd.underlying40) ?_
            refine wm ?_
            refine WL.cut 12 [(1, st data), (2, zI keep), (7, zP b_1'), (16, st ((j3 ((b9 ((b9 fm0 (wf0 keep) 0 ((a8 argv).2.1) data).1) (wf0 keep) (0 + 1) ((a8 argv).2.1) ([110, 101, 119, 32, 99, 111, 110, 116, 101, 110, 116, 115] : List UInt8)).1) ([] : List (Int × Fl)) (0 + 1) ((a8 (b7 (a8 argv))).2.1)).1)), (134, zB (xe_2'.isNone || ((!decide ((a8 argv).2.1 = ([111, 116, 104, 101, 114] : List UInt8))) && (xe_4'.isSome || (!decide ((j3 ((b9 ((b9 fm0 (wf0 keep) 0 ((a8 argv).2.1) data).1) (wf0 keep) (0 + 1) ((a8 argv).2.1) ([110, 101, 119, 32, 99, 111, 110, 116, 101, 110, 116, 115] : List UInt8)).1) ([] : List (Int × Fl)) ((0 + 1) + 1) ([111, 116, 104, 101, 114] : List UInt8)).1 = ([115, 116, 97, 121, 115] : List UInt8)))))))] ?_ (fun K0_35' hK_35' => ?_)
            rotate_left
            ·refine WL.split (xe_2'.isNone) (fun hb => ?_) (fun hb => ?_)
             ·refine WL.set 122 rfl (congrArg zB hb) ?_
              refine wk ?_
              refine wk ?_
              refine wk ?_
              refine wk ?_
              refine wk ?_
              refine wk ?_
              refine wk ?_
              refine wk ?_
              refine wk ?_
              refine wk ?_
              refine wk ?_
              refine wv (OV.pickT rfl rfl) ?_
              refine WL.set 134 rfl (oT (v := (!decide ((a8 argv).2.1 = ([111, 116, 104, 101, 114] : List UInt8))) && (xe_4'.isSome || (!decide ((j3 ((b9 ((b9 fm0 (wf0 keep) 0 ((a8 argv).2.1) data).1) (wf0 keep) (0 + 1) ((a8 argv).2.1) ([110, 101, 119, 32, 99, 111, 110, 116, 101, 110, 116, 115] : List UInt8)).1) ([] : List (Int × Fl)) ((0 + 1) + 1) ([111, 116, 104, 101, 114] : List UInt8)).1 = ([115, 116, 97, 121, 115] : List UInt8))))) hb) ?_
              exact WL.end_ (kg hK_35')
             ·refine WL.set 122 rfl (congrArg zB hb) ?_
              refine wv (OV.fieldAddr0 rfl m8) ?_
              refine wv (OV.load rfl (At.own 5 rfl) rfl d3) ?_
              refine wv (OV.neqS rfl rfl) ?_
              refine wm ?_
              refine WL.cut 7 [(1, st data), (2, zI keep), (7, zP b_1'), (16, st ((j3 ((b9 ((b9 fm0 (wf0 keep) 0 ((a8 argv).2.1) data).1) (wf0 keep) (0 + 1) ((a8 argv).2.1) ([110, 101, 119, 32, 99, 111, 110, 116, 101, 110, 116, 115] : List UInt8)).1) ([] : List (Int × Fl)) (0 + 1) ((a8 (b7 (a8 argv))).2.1)).1)), (122, zB false), (133, zB ((!decide ((a8 argv).2.1 = ([111, 116, 104, 101, 114] : List UInt8))) && (xe_4'.isSome || (!decide ((j3 ((b9 ((b9 fm0 (wf0 keep) 0 ((a8 argv).2.1) data).1) (wf0 keep) (0 + 1) ((a8 argv).2.1) ([110, 101, 119, 32, 99, 111, 110, 116, 101, 110, 116, 115] : List UInt8)).1) ([] : List (Int × Fl)) ((0 + 1) + 1) ([111, 116, 104, 101, 114] : List UInt8)).1 = ([115, 116, 97, 121, 115] : List UInt8))))))] ?_ (fun K0_34' hK_34' => ?_)
              rotate_left
              ·refine WL.split (!decide ((a8 argv).2.1 = ([111, 116, 104, 101, 114] : List UInt8))) (fun hb => ?_) (fun hb => ?_)
               ·refine WL.set 126 rfl (congrArg zB hb) ?_
                refine wm ?_
                refine wv (OV.neqErr rfl Tryd.underlying40) ?_
                refine wm ?_
                refine WL.cut 3 [(1, st data), (2, zI keep), (7, zP b_1'), (16, st ((j3 ((b9 ((b9 fm0 (wf0 keep) 0 ((a8 argv).2.1) data).1) (wf0 keep) (0 + 1) ((a8 argv).2.1) ([110, 101, 119, 32, 99, 111, 110, 116, 101, 110, 116, 115] : List UInt8)).1) ([] : List (Int × Fl)) (0 + 1) ((a8 (b7 (a8 argv))).2.1)).1)), (122, zB false), (126, zB true), (132, zB (xe_4'.isSome || (!decide ((j3 ((b9 ((b9 fm0 (wf0 keep) 0 ((a8 argv).2.1) data).1) (wf0 keep) (0 + 1) ((a8 argv).2.1) ([110, 101, 119, 32, 99, 111, 110, 116, 101, 110, 116, 115] : List UInt8)).1) ([] : List (Int × Fl)) ((0 + 1) + 1) ([111, 116, 104, 101, 114] : List UInt8)).1 = ([115, 116, 97, 121, 115] : List UInt8)))))] ?_ (fun K0_33' hK_33' => ?_)
                rotate_left
                ·refine WL.split (xe_4'.isSome) (fun hb => ?_) (fun hb => ?_)
                 ·refine WL.set 129 rfl (congrArg zB hb) ?_
                  refine wk ?_
                  refine wk ?_
                  refine wv (OV.pickT rfl rfl) ?_
                  refine WL.set 132 rfl (oT (v := !decide ((j3 ((b9 ((b9 fm0 (wf0 keep) 0 ((a8 argv).2.1) data).1) (wf0 keep) (0 + 1) ((a8 argv).2.1) ([110, 101, 119, 32, 99, 111, 110, 116, 101, 110, 116, 115] : List UInt8)).1) ([] : List (Int × Fl)) ((0 + 1) + 1) ([111, 116, 104, 101, 114] : List UInt8)).1 = ([115, 116, 97, 121, 115] : List UInt8))) hb) ?_
                  exact WL.end_ (kg hK_33')
                 ·refine WL.set 129 rfl (congrArg zB hb) ?_
                  refine wm ?_
                  refine wv (OV.neqS rfl rfl) ?_
                  refine wv (OV.pickF rfl rfl) ?_
                  refine WL.set 132 rfl (oF (v := !decide ((j3 ((b9 ((b9 fm0 (wf0 keep) 0 ((a8 argv).2.1) data).1) (wf0 keep) (0 + 1) ((a8 argv).2.1) ([110, 101, 119, 32, 99, 111, 110, 116, 101, 110, 116, 115] : List UInt8)).1) ([] : List (Int × Fl)) ((0 + 1) + 1) ([111, 116, 104, 101, 114] : List UInt8)).1 = ([115, 116, 97, 121, 115] : List UInt8))) hb) ?_
                  exact WL.end_ (kg hK_33')
                refine wv (OV.pickT rfl rfl) ?_
                refine WL.set 133 rfl (bT (v := xe_4'.isSome || (!decide ((j3 ((b9 ((b9 fm0 (wf0 keep) 0 ((a8 argv).2.1) data).1) (wf0 keep) (0 + 1) ((a8 argv).2.1) ([110, 101, 119, 32, 99, 111, 110, 116, 101, 110, 116, 115] : List UInt8)).1) ([] : List (Int × Fl)) ((0 + 1) + 1) ([111, 116, 104, 101, 114] : List UInt8)).1 = ([115, 116, 97, 121, 115] : List UInt8)))) hb) ?_
                exact WL.end_ (kg hK_34')
               ·refine WL.set 126 rfl (congrArg zB hb) ?_
                refine wk ?_
                refine wk ?_
                refine wk ?_
                refine wk ?_
                refine wk ?_
                refine wk ?_
                refine wv (OV.pickF rfl rfl) ?_
                refine WL.set 133 rfl (bF (v := xe_4'.isSome || (!decide ((j3 ((b9 ((b9 fm0 (wf0 keep) 0 ((a8 argv).2.1) data).1) (wf0 keep) (0 + 1) ((a8 argv).2.1) ([110, 101, 119, 32, 99, 111, 110, 116, 101, 110, 116, 115] : List UInt8)).1) ([] : List (Int × Fl)) ((0 + 1) + 1) ([111, 116, 104, 101, 114] : List UInt8)).1 = ([115, 116, 97, 121, 115] : List UInt8)))) hb) ?_
                exact WL.end_ (kg hK_34')
              refine wv (OV.pickF rfl rfl) ?_
              refine WL.set 134 rfl (oF (v := (!decide ((a8 argv).2.1 = ([111, 116, 104, 101, 114] : List UInt8))) && (xe_4'.isSome || (!decide ((j3 ((b9 ((b9 fm0 (wf0 keep) 0 ((a8 argv).2.1) data).1) (wf0 keep) (0 + 1) ((a8 argv).2.1) ([110, 101, 119, 32, 99, 111, 110, 116, 101, 110, 116, 115] : List UInt8)).1) ([] : List (Int × Fl)) ((0 + 1) + 1) ([111, 116, 104, 101, 114] : List UInt8)).1 = ([115, 116, 97, 121, 115] : List UInt8))))) hb) ?_
              exact WL.end_ (kg hK_35')
            refine WL.nil ?_
            refine kg (hK_32' [(1, st data), (2, zI keep), (7, zP b_1'), (16, st ((j3 ((b9 ((b9 fm0 (wf0 keep) 0 ((a8 argv).2.1) data).1) (wf0 keep) (0 + 1) ((a8 argv).2.1) ([110, 101, 119, 32, 99, 111, 110, 116, 101, 110, 116, 115] : List UInt8)).1) ([] : List (Int × Fl)) (0 + 1) ((a8 (b7 (a8 argv))).2.1)).1)), (134, zB (xe_2'.isNone || ((!decide ((a8 argv).2.1 = ([111, 116, 104, 101, 114] : List UInt8))) && (xe_4'.isSome || (!decide ((j3 ((b9 ((b9 fm0 (wf0 keep) 0 ((a8 argv).2.1) data).1) (wf0 keep) (0 + 1) ((a8 argv).2.1) ([110, 101, 119, 32, 99, 111, 110, 116, 101, 110, 116, 115] : List UInt8)).1) ([] : List (Int × Fl)) ((0 + 1) + 1) ([111, 116, 104, 101, 114] : List UInt8)).1 = ([115, 116, 97, 121, 115] : List UInt8)))))))] _ ?_)
            refine d4 (b := xe_2'.isNone || ((!decide ((a8 argv).2.1 = ([111, 116, 104, 101, 114] : List UInt8))) && (xe_4'.isSome || (!decide ((j3 ((b9 ((b9 fm0 (wf0 keep) 0 ((a8 argv).2.1) data).1) (wf0 keep) (0 + 1) ((a8 argv).2.1) ([110, 101, 119, 32, 99, 111, 110, 116, 101, 110, 116, 115] : List UInt8)).1) ([] : List (Int × Fl)) ((0 + 1) + 1) ([111, 116, 104, 101, 114] : List UInt8)).1 = ([115, 116, 97, 121, 115] : List UInt8)))))) rfl (fun hb => ?_) (fun hb => ?_)
            ·replace h := k9 h hb
             refine a7 (fun _ hK_36' => ?_)
             refine a6 ?_
             refine wA ?_
             refine WL.nil ?_
             refine kg (hK_36' [(6, zB false)] _ ?_)
             refine e7 ?_
             exact hE.ret [] rfl rfl (.inl ⟨_, h, rfl⟩) (j6.of1 rfl (RV.tmp rfl))
            ·replace h := l6 h hb
             refine b8 ?_
             refine kg (hK_31' [(1, st data), (2, zI keep), (7, zP b_1'), (16, st ((j3 ((b9 ((b9 fm0 (wf0 keep) 0 ((a8 argv).2.1) data).1) (wf0 keep) (0 + 1) ((a8 argv).2.1) ([110, 101, 119, 32, 99, 111, 110, 116, 101, 110, 116, 115] : List UInt8)).1) ([] : List (Int × Fl)) (0 + 1) ((a8 (b7 (a8 argv))).2.1)).1))] _ ?_)
             refine a7 (fun _ hK_37' => ?_)
             refine a7 (fun _ hK_38' => ?_)
             refine a6 ?_
             refine wv (OV.fieldAddr0 rfl m8) ?_
             refine wv (OV.load rfl (At.own 5 rfl) rfl d3) ?_
             obtain ⟨o_21', h⟩ := h
             refine WL.call (A := []) ag5 rfl (aeb ((a8 argv).2.1) o_21') rfl trivial rfl rfl ?_
             refine wv (OV.not rfl) ?_
             refine WL.nil ?_
             refine kg (hK_38' [(1, st data), (2, zI keep), (16, st ((j3 ((b9 ((b9 fm0 (wf0 keep) 0 ((a8 argv).2.1) data).1) (wf0 keep) (0 + 1) ((a8 argv).2.1) ([110, 101, 119, 32, 99, 111, 110, 116, 101, 110, 116, 115] : List UInt8)).1) ([] : List (Int × Fl)) (0 + 1) ((a8 (b7 (a8 argv))).2.1)).1)), (138, zB (!(l8 ((a8 argv).2.1))))] _ ?_)
             refine d4 (b := !(l8 ((a8 argv).2.1))) rfl (fun hb => ?_) (fun hb => ?_)
             ·replace h := k9 h hb
              refine a7 (fun _ hK_39' => ?_)
              refine a6 ?_
              refine wm ?_
              refine wv (OV.eqlS rfl rfl) ?_
              refine wA ?_
              refine WL.nil ?_
              refine kg (hK_39' [(6, zB (decide ((j3 ((b9 ((b9 fm0 (wf0 keep) 0 ((a8 argv).2.1) data).1) (wf0 keep) (0 + 1) ((a8 argv).2.1) ([110, 101, 119, 32, 99, 111, 110, 116, 101, 110, 116, 115] : List UInt8)).1) ([] : List (Int × Fl)) (0 + 1) ((a8 (b7 (a8 argv))).2.1)).1 = [])))] _ ?_)
              refine e7 ?_
              exact hE.ret [] rfl rfl (.inl ⟨_, h, rfl⟩) (j6.of1 rfl (RV.tmp rfl))
             ·replace h := l6 h hb
              refine b8 ?_
              refine kg (hK_37' [(1, st data), (2, zI keep), (16, st ((j3 ((b9 ((b9 fm0 (wf0 keep) 0 ((a8 argv).2.1) data).1) (wf0 keep) (0 + 1) ((a8 argv).2.1) ([110, 101, 119, 32, 99, 111, 110, 116, 101, 110, 116, 115] : List UInt8)).1) ([] : List (Int × Fl)) (0 + 1) ((a8 (b7 (a8 argv))).2.1)).1))] _ ?_)
              refine a7 (fun _ hK_40' => ?_)
              refine a7 (fun _ hK_41' => ?_)
              refine a6 ?_
              refine wm ?_
              refine wv (OV.lss rfl rfl) ?_
              refine WL.nil ?_
              refine kg (hK_41' [(1, st data), (2, zI keep), (16, st ((j3 ((b9 ((b9 fm0 (wf0 keep) 0 ((a8 argv).2.1) data).1) (wf0 keep) (0 + 1) ((a8 argv).2.1) ([110, 101, 119, 32, 99, 111, 110, 116, 101, 110, 116, 115] : List UInt8)).1) ([] : List (Int × Fl)) (0 + 1) ((a8 (b7 (a8 argv))).2.1)).1)), (142, zB (decide (keep < 0)))] _ ?_)
              refine d4 (b := decide (keep < 0)) rfl (fun hb => ?_) (fun hb => ?_)
              ·replace h := k9 h hb
               refine a7 (fun _ hK_42' => ?_)
               refine a6 ?_
               refine wm ?_
               refine wm ?_
               refine wv (OV.eqlS rfl rfl) ?_
               refine wA ?_
               refine WL.nil ?_
               refine kg (hK_42' [(6, zB (decide ((j3 ((b9 ((b9 fm0 (wf0 keep) 0 ((a8 argv).2.1) data).1) (wf0 keep) (0 + 1) ((a8 argv).2.1) ([110, 101, 119, 32, 99, 111, 110, 116, 101, 110, 116, 115] : List UInt8)).1) ([] : List (Int × Fl)) (0 + 1) ((a8 (b7 (a8 argv))).2.1)).1 = data)))] _ ?_)
               refine e7 ?_
               exact hE.ret [] rfl rfl (.inl ⟨_, h, rfl⟩) (j6.of1 rfl (RV.tmp rfl))
              ·replace h := l6 h hb
               refine b8 ?_
               refine kg (hK_40' [(2, zI keep), (16, st ((j3 ((b9 ((b9 fm0 (wf0 keep) 0 ((a8 argv).2.1) data).1) (wf0 keep) (0 + 1) ((a8 argv).2.1) ([110, 101, 119, 32, 99, 111, 110, 116, 101, 110, 116, 115] : List UInt8)).1) ([] : List (Int × Fl)) (0 + 1) ((a8 (b7 (a8 argv))).2.1)).1))] _ ?_)
               refine a7 (fun _ hK_43' => ?_)
               refine a6 ?_
               refine wm ?_
               refine wm ?_
               refine wv (OV.minI rfl rfl) ?_
               obtain ⟨o_22', h⟩ := h
               refine wv (OV.sliceH rfl rfl d5 o_22') ?_
               refine wv (OV.eqlS rfl rfl) ?_
               refine wA ?_
               refine WL.nil ?_
               refine kg (hK_43' [(6, zB (decide ((j3 ((b9 ((b9 fm0 (wf0 keep) 0 ((a8 argv).2.1) data).1) (wf0 keep) (0 + 1) ((a8 argv).2.1) ([110, 101, 119, 32, 99, 111, 110, 116, 101, 110, 116, 115] : List UInt8)).1) ([] : List (Int × Fl)) (0 + 1) ((a8 (b7 (a8 argv))).2.1)).1 = ([110, 101, 119, 32, 99, 111, 110, 116, 101, 110, 116, 115] : List UInt8).take (min keep 12).toNat)))] _ ?_)
               refine e7 ?_
               exact hE.ret [] rfl rfl (.inl ⟨_, h, rfl⟩) (j6.of1 rfl (RV.tmp rfl))
           ·obtain ⟨xe_4', hc, ho⟩ := hS
            cases ho
          ·obtain ⟨xe_3', hc, ho⟩ := hS
           cases ho
         ·obtain ⟨xe_2', hc, ho⟩ := hS
          cases ho
        ·skip
         refine a7 (fun _ hK_44' => ?_)
         refine a6 ?_
         refine wv (OV.fieldAddr0 rfl m8) ?_
         refine wv (OV.load rfl (At.own 11 rfl) rfl d3) ?_
         obtain ⟨o_23', h⟩ := h
         refine WL.call (A := []) ag5 rfl (aeb ((a8 argv).2.1) o_23') rfl trivial rfl rfl ?_
         refine WL.nil ?_
         refine kg (hK_44' [(1, st data), (2, zI keep), (7, zP b_1'), (9, zP b_4'), (11, zP nb), (12, ab9 xe), (13, st ((j3 ((b9 fm0 (wf0 keep) 0 ((a8 argv).2.1) data).1) ([] : List (Int × Fl)) 0 ((a8 (b7 (a8 argv))).2.1)).1)), (14, ab9 xe_1'), (86, zB (l8 ((a8 argv).2.1)))] _ ?_)
         refine d4 (b := l8 ((a8 argv).2.1)) rfl (fun hb => ?_) (fun hb => ?_)
         ·replace h := k9 h hb
          refine a7 (fun _ hK_45' => ?_)
          refine a6 ?_
          refine wm ?_
          refine wv (OV.neqErr rfl Tryd.underlying40) ?_
          refine wm ?_
          refine WL.cut 3 [(1, st data), (2, zI keep), (7, zP b_1'), (9, zP b_4'), (11, zP nb), (13, st ((j3 ((b9 fm0 (wf0 keep) 0 ((a8 argv).2.1) data).1) ([] : List (Int × Fl)) 0 ((a8 (b7 (a8 argv))).2.1)).1)), (92, zB (xe.isSome || xe_1'.isSome))] ?_ (fun K0_46' hK_46' => ?_)
          rotate_left
          ·refine WL.split (xe.isSome) (fun hb => ?_) (fun hb => ?_)
           ·refine WL.set 89 rfl (congrArg zB hb) ?_
            refine wk ?_
            refine wk ?_
            refine wv (OV.pickT rfl rfl) ?_
            refine WL.set 92 rfl (oT (v := xe_1'.isSome) hb) ?_
            exact WL.end_ (kg hK_46')
           ·refine WL.set 89 rfl (congrArg zB hb) ?_
            refine wm ?_
            refine wv (OV.neqErr rfl Tryd.underlying40) ?_
            refine wv (OV.pickF rfl rfl) ?_
            refine WL.set 92 rfl (oF (v := xe_1'.isSome) hb) ?_
            exact WL.end_ (kg hK_46')
          refine wm ?_
          refine WL.cut 4 [(1, st data), (2, zI keep), (7, zP b_1'), (9, zP b_4'), (11, zP nb), (97, zB ((xe.isSome || xe_1'.isSome) || (!decide ((j3 ((b9 fm0 (wf0 keep) 0 ((a8 argv).2.1) data).1) ([] : List (Int × Fl)) 0 ((a8 (b7 (a8 argv))).2.1)).1 = data))))] ?_ (fun K0_47' hK_47' => ?_)
          rotate_left
          ·refine WL.split (xe.isSome || xe_1'.isSome) (fun hb => ?_) (fun hb => ?_)
           ·refine WL.set 93 rfl (congrArg zB hb) ?_
            refine wk ?_
            refine wk ?_
            refine wk ?_
            refine wv (OV.pickT rfl rfl) ?_
            refine WL.set 97 rfl (oT (v := !decide ((j3 ((b9 fm0 (wf0 keep) 0 ((a8 argv).2.1) data).1) ([] : List (Int × Fl)) 0 ((a8 (b7 (a8 argv))).2.1)).1 = data)) hb) ?_
            exact WL.end_ (kg hK_47')
           ·refine WL.set 93 rfl (congrArg zB hb) ?_
            refine wm ?_
            refine wm ?_
            refine wv (OV.neqS rfl rfl) ?_
            refine wv (OV.pickF rfl rfl) ?_
            refine WL.set 97 rfl (oF (v := !decide ((j3 ((b9 fm0 (wf0 keep) 0 ((a8 argv).2.1) data).1) ([] : List (Int × Fl)) 0 ((a8 (b7 (a8 argv))).2.1)).1 = data)) hb) ?_
            exact WL.end_ (kg hK_47')
          refine WL.nil ?_
          refine kg (hK_45' [(1, st data), (2, zI keep), (7, zP b_1'), (9, zP b_4'), (11, zP nb), (97, zB ((xe.isSome || xe_1'.isSome) || (!decide ((j3 ((b9 fm0 (wf0 keep) 0 ((a8 argv).2.1) data).1) ([] : List (Int × Fl)) 0 ((a8 (b7 (a8 argv))).2.1)).1 = data))))] _ ?_)
          refine d4 (b := (xe.isSome || xe_1'.isSome) || (!decide ((j3 ((b9 fm0 (wf0 keep) 0 ((a8 argv).2.1) data).1) ([] : List (Int × Fl)) 0 ((a8 (b7 (a8 argv))).2.1)).1 = data))) rfl (fun hb => ?_) (fun hb => ?_)
          ·replace h := k9 h hb
           refine a7 (fun _ hK_48' => ?_)
           refine a6 ?_
           refine wA ?_
           refine WL.nil ?_
           refine kg (hK_48' [(6, zB false)] _ ?_)
           refine e7 ?_
           exact hE.ret [] rfl rfl (.inl ⟨_, h, rfl⟩) (j6.of1 rfl (RV.tmp rfl))
          ·replace h := l6 h hb
           refine b8 ?_
           exact kh (hK_27' () h) [0, 1, 2, 3, 7, 11]
         ·replace h := l6 h hb
          refine a7 (fun _ hK_49' => ?_)
          refine a6 ?_
          refine wm ?_
          refine wv (OV.eqlErr rfl Tryd.underlying40) ?_
          refine wm ?_
          refine WL.cut 3 [(1, st data), (2, zI keep), (7, zP b_1'), (9, zP b_4'), (11, zP nb), (103, zB (xe.isNone || xe_1'.isNone))] ?_ (fun K0_50' hK_50' => ?_)
          rotate_left
          ·refine WL.split (xe.isNone) (fun hb => ?_) (fun hb => ?_)
           ·refine WL.set 100 rfl (congrArg zB hb) ?_
            refine wk ?_
            refine wk ?_
            refine wv (OV.pickT rfl rfl) ?_
            refine WL.set 103 rfl (oT (v := xe_1'.isNone) hb) ?_
            exact WL.end_ (kg hK_50')
           ·refine WL.set 100 rfl (congrArg zB hb) ?_
            refine wm ?_
            refine wv (OV.eqlErr rfl Tryd.underlying40) ?_
            refine wv (OV.pickF rfl rfl) ?_
            refine WL.set 103 rfl (oF (v := xe_1'.isNone) hb) ?_
            exact WL.end_ (kg hK_50')
          refine WL.nil ?_
          refine kg (hK_49' [(1, st data), (2, zI keep), (7, zP b_1'), (9, zP b_4'), (11, zP nb), (103, zB (xe.isNone || xe_1'.isNone))] _ ?_)
          refine d4 (b := xe.isNone || xe_1'.isNone) rfl (fun hb => ?_) (fun hb => ?_)
          ·replace h := k9 h hb
           refine a7 (fun _ hK_51' => ?_)
           refine a6 ?_
           refine wA ?_
           refine WL.nil ?_
           refine kg (hK_51' [(6, zB false)] _ ?_)
           refine e7 ?_
           exact hE.ret [] rfl rfl (.inl ⟨_, h, rfl⟩) (j6.of1 rfl (RV.tmp rfl))
          ·replace h := l6 h hb
           refine b8 ?_
           exact kh (hK_27' () h) [0, 1, 2, 3, 7, 11]
       ·obtain ⟨xe_1', hc, ho⟩ := hS
        cases ho
      ·obtain ⟨xe, hc, ho⟩ := hS
       cases ho
     ·obtain ⟨nb, nb_1', nb_2', nb_3', ho⟩ := hS
      cases ho
   ·obtain ⟨w_2', ho⟩ := hS
    cases ho
abbrev aac : Bs := [111, 116, 104, 101, 114]
abbrev agi : Bs := [115, 116, 97, 121, 115]
abbrev ann : Bs := [110, 101, 119, 32, 99, 111, 110, 116, 101, 110, 116, 115]
section
variable {nm data d2 v : Bs} {keep rc wc : Int} {fm : List (Bs × Bs)} {rf wf : List (Int × Fl)}
theorem akg (h : l8 nm = false) : b9 fm wf wc nm data = (fm, true) := by unfold b9; rw [if_pos h]
theorem amy (h : l8 nm = false) : j3 fm rf rc nm = ([], true) := by unfold j3; rw [if_pos h]
theorem anr : s9 fm0 nm = true := by
 unfold s9
 rw [show ((szM fm0 : Nat) : Int) = 2 from rfl]
 simp
theorem amx (h : l8 nm = true) : b9 fm0 (wf0 keep) 0 nm data = ((nm, data) :: fm0, false) := by
 unfold b9
 rw [if_neg (by rw [h]; decide), if_neg (by rw [anr]; decide), if_neg (by show ¬ (none : Option Fl).isSome = true; decide)]
theorem amt : lk ((nm, v) :: fm) nm = some v := by unfold lk; rw [if_pos rfl]
theorem am1 (h : l8 nm = true) : b9 ((nm, data) :: fm0) (wf0 keep) (0 + 1) nm d2 = (if 0 ≤ keep then (nm, d2.take (min keep (d2.length : Int)).toNat) :: (nm, data) :: fm0 else (nm, data) :: fm0, true) := by
 unfold b9
 have hr : s9 ((nm, data) :: fm0) nm = true := by unfold s9; rw [amt]; rfl
 rw [if_neg (by rw [h]; decide), if_neg (by rw [hr]; decide), if_pos (by rfl)]
 rfl
theorem ah5 (h : l8 nm = true) : j3 ((nm, v) :: fm) [] rc nm = (v, false) := by
 unfold j3
 rw [if_neg (by rw [h]; decide), if_neg (by show ¬ (none : Option Fl).isSome = true; decide), amt, if_neg (show ¬ (some v).isSome = false by simp)]
 rfl
theorem agp (h : lk fm aac = some agi) : j3 fm [] rc aac = (agi, false) := by
 unfold j3
 rw [if_neg (by decide), if_neg (by show ¬ (none : Option Fl).isSome = true; decide), h, if_neg (by decide)]
 rfl
theorem af0 (h : nm ≠ aac) : lk ((nm, v) :: fm) aac = lk fm aac := by rw [lk, if_neg h]
end
theorem ail : w8 [([112, 117, 116] : Bs), [108], [118], [115]] ps0 = .ok ⟨[112, 117, 116], [108], [118], [115], [], 1024, 0, 0, 0, 0, [], [112, 117, 116], [108, 118, 115], [98, 111], 4, 3⟩ := by kernel_rfl
theorem ald {av : List Bs} (hb : ∀ s ∈ av, s.length ≤ 140737488351232) (h : ¬ agd av = true) : (a8 av).2.1.length ≤ 140737488351232 := by
 unfold agd at h
 cases hq : w8 av ps0 with
 | error e => rw [hq] at h; exact absurd rfl h
 | ok q =>
  have g := (aek hb hq).2
  have e : a8 av = cmT q := by unfold a8; rw [hq]
  rw [e]
  exact g.size.2.1
theorem agh (te : TypeId) (fre : Nat × Nat) (te2 : TypeId) (fre2 : Nat × Nat) (te3 : TypeId) (fre3 : Nat × Nat) (q0 : Addr) (te4 : TypeId) (fre4 : Nat × Nat) (q1 : Addr) (te5 : TypeId) (fre5 : Nat × Nat) (q2 : Addr) (te6 : TypeId) (fre6 : Nat × Nat) (q3 : Addr)
  (v : Value) (l : List Bs) (hb : l.length ≤ 8796093022207 ∧ ∀ s ∈ l, s.length ≤ 140737488351232) (data : Bs) (hd : data.length ≤ 140737488351232) (keep : Int) (hk : I64 keep) (R : List (Nat × Obj)) (hR : aaq v R l.length (l.flatMap m9)) :
  i7 Tryd.prog 3 [v, st data, .int .i64 keep] (R ++ (adn te fre ++ ((6, .cells aan.toArray te2 fre2) :: af6 te3 fre3 (n4 q0) te4 fre4 (n4 q1) te5 fre5 (n4 q2) te6 fre6 (n4 q3)))) [] (Ret (.bool true) []) := by
 obtain ⟨h1, h2⟩ := hb
 have hA : AvB l := ⟨by omega, fun s hs => by have := h2 s hs; omega⟩
 refine i7.one (e := fun v => .bool v) (aht v te fre te2 fre2 te3 fre3 te4 fre4 te5 fre5 te6 fre6 l data keep q0 q1 q2 q3 R hR (fun v => v = true) ?_)
 unfold acb
 have p1 : j9 [([112, 117, 116] : Bs), [108], [118], [115]] = (0, 0, []) := by unfold j9; rw [ail]
 have p2 : (a8 [([112, 117, 116] : Bs), [108], [118], [115]]).2.2.2.1 = [115] := by unfold a8; rw [ail]; rfl
 refine ⟨⟨by decide, by decide⟩, ?_⟩
 rw [if_neg (by simp [k8, p1, p2])]
 refine ⟨⟨by simp only [List.length_nil]; omega, by simp only [List.length_nil]; omega⟩, hA, ?_⟩
 by_cases hn : agd l = true
 ·obtain ⟨e1, e2⟩ := aj5 hn
  rw [if_pos (by simp [k8, e2])]
  simp [k8, e1, e2]
 ·obtain ⟨c1, c2, c3, c4⟩ := ai1 h2 hn
  have hl := ald h2 hn
  rw [if_neg (by simp [k8, ajv hn])]
  refine ⟨c1, c2, ?_⟩
  rw [if_neg (by simp [k8, c3, c4])]
  refine ⟨hk, ?_⟩
  simp only [c3]
  generalize (a8 l).2.1 = nm at hl
  have hs : ∀ (a b : Int) (fm : List (Bs × Bs)), 0 ≤ a → a ≤ 10 → 0 ≤ b → b ≤ 10 → fm.length ≤ 10 → agm a b fm := fun a b fm g1 g2 g3 g4 g5 => ⟨⟨g1, by omega⟩, ⟨g3, by omega⟩, by omega⟩
  have hnm : nm.length ≤ 140737488355328 := by omega
  have hda : data.length ≤ 140737488355328 := by omega
  refine ⟨⟨hs _ _ _ (by decide) (by decide) (by decide) (by decide) (by decide), hnm, hda⟩, fun xe hxe => ?_⟩
  cases hg : l8 nm with
  | false =>
   have hno : nm ≠ aac := by rintro rfl; revert hg; decide
   rw [akg hg] at hxe ⊢
   refine ⟨⟨hs _ _ _ (by decide) (by decide) (by decide) (by decide) (by decide), hnm⟩, fun x1 hx1 => ?_⟩
   rw [amy hg] at hx1 ⊢
   refine ⟨True, fun _ _ => ?_, hnm, ?_⟩
   ·refine ⟨⟨hs _ _ _ (by decide) (by decide) (by decide) (by decide) (by decide), hnm, by decide⟩, fun x2 hx2 => ?_⟩
    rw [akg hg] at hx2 ⊢
    refine ⟨⟨hs _ _ _ (by decide) (by decide) (by decide) (by decide) (by decide), hnm⟩, fun x3 hx3 => ⟨⟨hs _ _ _ (by decide) (by decide) (by decide) (by decide) (by decide), by decide⟩, fun x4 hx4 => ?_⟩⟩
    have hst : j3 fm0 [] ((0 + 1) + 1) aac = (agi, false) := agp rfl
    rw [hst] at hx4 ⊢
    have i2 : x2.isNone = false := by cases x2 with | none => cases hx2 | some _ => rfl
    have i4 : x4.isSome = false := hx4
    rw [if_neg (by simp [i2, i4])]
    refine ⟨hnm, ?_⟩
    rw [if_pos (by decide)]; rfl
   ·have i0 : xe.isNone = false := by cases xe with | none => cases hxe | some _ => rfl
    have i1 : x1.isNone = false := by cases x1 with | none => cases hx1 | some _ => rfl
    rw [if_neg (by decide), if_neg (by simp [i0, i1])]
    trivial
  | true =>
   rw [amx hg] at hxe ⊢
   refine ⟨⟨hs _ _ _ (by decide) (by decide) (by decide) (by decide) (by simp [fm0]), hnm⟩, fun x1 hx1 => ?_⟩
   simp only [ah5 hg] at hx1 ⊢
   refine ⟨True, fun _ _ => ?_, hnm, ?_⟩
   ·refine ⟨⟨hs _ _ _ (by decide) (by decide) (by decide) (by decide) (by simp [fm0]), hnm, by decide⟩, fun x2 hx2 => ?_⟩
    simp only [am1 hg] at hx2 ⊢
    generalize hF : (if 0 ≤ keep then (nm, ann.take (min keep (ann.length : Int)).toNat) :: (nm, data) :: fm0 else (nm, data) :: fm0) = F
    have hF5 : F.length ≤ 10 := by rw [← hF]; split <;> simp [fm0]
    refine ⟨⟨hs _ _ _ (by decide) (by decide) (by decide) (by decide) hF5, hnm⟩, fun x3 hx3 => ⟨⟨hs _ _ _ (by decide) (by decide) (by decide) (by decide) hF5, by decide⟩, fun x4 hx4 => ?_⟩⟩
    have i2 : x2.isNone = false := by cases x2 with | none => cases hx2 | some _ => rfl
    have hst : nm ≠ aac → j3 F [] ((0 + 1) + 1) aac = (agi, false) := fun hno => agp (by
     rw [← hF]
     split
     ·rw [af0 hno, af0 hno]; rfl
     ·rw [af0 hno]; rfl)
    rw [if_neg (by
     by_cases hno : nm = aac
     ·simp [i2, hno]
     ·rw [hst hno] at hx4 ⊢
      have i4 : x4.isSome = false := hx4
      simp [i2, i4])]
    refine ⟨hnm, ?_⟩
    rw [if_neg (by decide)]
    by_cases hkp : keep < 0
    ·rw [if_pos (decide_eq_true hkp), ← hF, if_neg (by omega), ah5 hg]
     simp
    ·rw [if_neg (by rw [decide_eq_true_eq]; exact hkp)]
     have h12 : (([110, 101, 119, 32, 99, 111, 110, 116, 101, 110, 116, 115] : List UInt8).length : Int) = 12 := rfl
     refine ⟨⟨by omega, by omega⟩, ?_⟩
     rw [← hF, if_pos (by omega), ah5 hg]
     simp
   ·have i0 : xe.isSome = false := hxe
    have i1 : x1.isSome = false := hx1
    simp [i0, i1]
end Go.Proofs.YtgocbiiolmmonaaDoor
namespace Go.Proofs.YtgocbiiolmmonaaDoor
open Go Go.ChangeShapes Go.WideShapes Go.ChangeAt Go.RowKit
theorem afd {α : Type} {Q : Nat → α → Prop} : ∀ n : Nat, (∀ i, i < n → ∃ x, Q i x) → ∃ l : List α, l.length = n ∧ ∀ (i : Nat) (x : α), l[i]? = some x → Q i x
 | 0, _ => ⟨[], rfl, fun i x h => by simp at h⟩
 | n + 1, h => by
  obtain ⟨l, hl, hq⟩ := afd n fun i hi => h i (by omega)
  obtain ⟨x, hx⟩ := h n (by omega)
  refine ⟨l ++ [x], by simp [hl], fun i y hy => ?_⟩
  by_cases hi : i < n
  ·rw [List.getElem?_append_left (by omega)] at hy
   exact hq i y hy
  ·rw [List.getElem?_append_right (by omega)] at hy
   have h0 : i - l.length = 0 := by
    rcases Nat.eq_zero_or_pos (i - l.length) with h | h
    ·exact h
    ·rw [List.getElem?_eq_none (by simp only [List.length_cons, List.length_nil]; omega)] at hy; cases hy
   rw [h0] at hy
   simp at hy
   subst hy
   rw [show i = n by omega]; exact hx
theorem ajg {α : Type} {f : α → List Value} {sz : Nat} (hf : ∀ x, (f x).length = sz) {l : List α} {i o : Nat} {x : α} {u : Value} (hi : l[i]? = some x) (hu : (f x)[o]? = some u) : (l.flatMap f)[i * sz + o]? = some u := by
 have hlt := (List.getElem?_eq_some_iff.1 hi).1
 have : Inhabited α := ⟨x⟩
 refine ahh hf hlt ?_
 rw [List.getD_eq_getElem?_getD, hi]; exact hu
theorem amh {H : Type} {enc : TypeId × Value → H} {P : Program} {W : World} {base : Nat} {spare : Nat → Bool} {held : Bool} {r : Reach} {b0 : Nat} {t e : TypeId} {v : Value} {d : DataW H} {p : List MemPlace} {sz : Nat} {α : Type} {f : α → List Value} {G : α → DataW H → Prop}
  (ht : P.underlying t = some (.slice e)) (hc : P.cellsOf e = sz) (h0 : 0 < sz) (hf : ∀ x, (f x).length = sz) (hel : ∀ n cs y, DataW.trod enc P W base spare held n e cs = some y → ∃ x, cs = f x ∧ G x y.1)
  (hv : Value.okWide P W r b0 t v) (h : DataW.Trod enc P W base spare held t v d p) :
  ∃ (R : List (Nat × Obj)) (l : List α), aaq v R l.length (l.flatMap f) ∧ (∀ q ∈ R, W.heap[q.1]? = some q.2) ∧ (d = .nil ∧ l = [] ∨ ∃ es sp, d = .slice es sp ∧ es.length = l.length ∧ ∀ (i : Nat) (x : α), l[i]? = some x → ∃ y, es[i]? = some y ∧ G x y) := by
 obtain ⟨a0, len0, cap0, rfl⟩ := okWide_slice ht hv
 obtain ⟨fuel, hfu⟩ := h
 rcases DataW.trod_slice ht hfu with ⟨hcs, hx⟩ | ⟨a, len, cap, elems, rest, n, _, hcs, hx, _, hl, _, hlen, hel2, _⟩
 ·simp [Value.cells] at hcs
  obtain ⟨rfl, rfl, rfl⟩ := hcs
  simp only [Prod.mk.injEq] at hx
  exact ⟨[], [], .inl ⟨rfl, rfl, ⟨_, _, rfl⟩, rfl⟩, fun q hq => (by cases hq), .inl ⟨hx.1, rfl⟩⟩
 ·simp [Value.cells] at hcs
  obtain ⟨rfl, rfl, rfl⟩ := hcs
  simp only [Prod.mk.injEq] at hx
  obtain ⟨l, hll, hq⟩ := afd (Q := fun i x => W.cells? base (a.add (i * sz)) sz = some (f x) ∧ ∃ y, elems[i]? = some y ∧ G x y.1) len0 fun i hi => by
   have h1 := hel2 i hi
   rw [hc, List.getElem?_eq_getElem (by omega), Option.bind_eq_some_iff] at h1
   obtain ⟨cs, h2, h3⟩ := h1
   obtain ⟨x, rfl, hg⟩ := hel _ _ _ h3
   exact ⟨x, h2, _, List.getElem?_eq_getElem (by omega), hg⟩
  have hd : ∃ es sp, d = .slice es sp ∧ es.length = l.length ∧ ∀ (i : Nat) (x : α), l[i]? = some x → ∃ y, es[i]? = some y ∧ G x y := by
   refine ⟨elems.map (·.1), rest.map (·.1), hx.1, by simp; omega, fun i x hi => ?_⟩
   obtain ⟨_, y, hy, hg⟩ := hq i x hi
   exact ⟨y.1, by simp [hy], hg⟩
  rcases Nat.eq_zero_or_pos len0 with h00 | hpos
  ·subst h00
   have hl0 : l = [] := List.eq_nil_of_length_eq_zero hll
   subst hl0
   exact ⟨[], [], .inl ⟨rfl, rfl, ⟨_, _, rfl⟩, rfl⟩, fun q hq => (by cases hq), .inr hd⟩
  ·-- the first cell tells the block
   have hx0 : ∃ x, l[0]? = some x := ⟨_, List.getElem?_eq_getElem (by omega)⟩
   obtain ⟨x0, hx0⟩ := hx0
   have hc0 := World.cells?_some (hq 0 x0 hx0).1
   have hcell := hc0.2.2 0 h0
   rw [Nat.zero_mul] at hcell
   have hf0 : ∃ u, (f x0)[0]? = some u := ⟨_, List.getElem?_eq_getElem (show 0 < (f x0).length by rw [hf]; exact h0)⟩
   obtain ⟨u0, hu0⟩ := hf0
   rw [hu0] at hcell
   have ha0 : (a.add 0).add 0 = a := rfl
   rw [ha0] at hcell
   obtain ⟨b, off, spot⟩ := a
   obtain ⟨cs, T, fr, hblk, rfl⟩ : ∃ cs T fr, W.heap[b]? = some (.cells cs T fr) ∧ spot = none := by
    unfold World.cell? at hcell
    simp only at hcell
    split at hcell
    ·rename_i c T fr hb
     split at hcell
     ·cases hcell
     ·rename_i hs
      exact ⟨c, T, fr, hb, by simpa using hs⟩
    ·cases hcell
   refine ⟨[(b, .cells cs T fr)], l, .inr ⟨b, off, cap0, cs.toList, T, fr, by rw [hll], by rw [Array.toArray_toList], ?_⟩, fun q hq' => by rw [List.mem_singleton.1 hq']; exact hblk, .inr hd⟩
   have key : ∀ j u, (l.flatMap f)[j]? = some u → cs.toList[off + j]? = some u := by
    intro j u hj
    have hjl : j < l.length * sz := by rw [← v8 hf l]; exact (List.getElem?_eq_some_iff.1 hj).1
    have hqi : j / sz < l.length := Nat.div_lt_of_lt_mul (by rw [Nat.mul_comm]; exact hjl)
    have e1 : j = j / sz * sz + j % sz := (Nat.div_add_mod' j sz).symm
    have hr := Nat.mod_lt j h0
    have hxi : l[j / sz]? = some l[j / sz] := List.getElem?_eq_getElem hqi
    have h2 := (World.cells?_some (hq _ _ hxi).1).2.2 (j % sz) hr
    have h3 : (f l[j / sz])[j % sz]? = some u := by
     obtain ⟨u', hu'⟩ : ∃ u', (f l[j / sz])[j % sz]? = some u' := ⟨_, List.getElem?_eq_getElem (show j % sz < (f l[j / sz]).length by rw [hf]; exact hr)⟩
     have := ajg hf hxi hu'
     rw [← e1, hj] at this
     rw [hu', this]
    rw [h3, Addr.add_mid, Addr.add_mid] at h2
    unfold World.cell? at h2
    simp only [hblk] at h2
    simp only [Option.isSome_none, Bool.false_eq_true, if_false] at h2
    rw [show off + j / sz * sz + j % sz = off + j by omega] at h2
    simpa using h2
   refine List.ext_getElem? fun j => ?_
   by_cases hj : j < (l.flatMap f).length
   ·rw [List.getElem?_take, if_pos hj, List.getElem?_drop, key j _ (List.getElem?_eq_getElem hj), List.getElem?_eq_getElem hj]
   ·rw [List.getElem?_eq_none (by rw [List.length_take]; omega), List.getElem?_eq_none (by omega)]
end Go.Proofs.YtgocbiiolmmonaaDoor
namespace Go.Proofs.YtgocbiiolmmonaaDoor
open Go Go.ChangeShapes Go.WideShapes Go.ChangeAt Go.RowKit
section
variable {H : Type} {enc : TypeId × Value → H} {W : World} {base b0 : Nat} {sp : Nat → Bool} {hd : Bool} {r : Reach} {v : Value} {d : DataW H} {ps : List MemPlace}
set_option maxRecDepth 100000 in
theorem amb (n : Nat) (cs : List Value) (y : DataW H × List MemPlace) (h : DataW.trod enc Tryd.prog W base sp hd n 9 cs = some y) : ∃ x : Bs, cs = m9 x ∧ y.1 = .lit (.string x) := by
 obtain ⟨s, e, rfl, _⟩ := DataW.trod_string Tryd.underlying9 h
 exact ⟨s.data.toList, e, rfl⟩
set_option maxRecDepth 100000 in
theorem ai9 (hval : Value.okWide Tryd.prog W r b0 22 v) (h : DataW.Trod enc Tryd.prog W base sp hd 22 v d ps) :
  ∃ (R : List (Nat × Obj)) (l : List Bs), aaq v R l.length (l.flatMap m9) ∧ (∀ q ∈ R, W.heap[q.1]? = some q.2) ∧ (d = .nil ∧ l = [] ∨ ∃ es sp, d = .slice es sp ∧ es.length = l.length ∧ ∀ (i : Nat) (x : Bs), l[i]? = some x → ∃ y, es[i]? = some y ∧ y = .lit (.string x)) :=
 amh Tryd.underlying22 (show Tryd.prog.cellsOf 9 = 1 by kernel_rfl) (by decide) l9 (G := fun x d => d = .lit (.string x)) (fun n cs y hy => amb n cs y hy) hval h
theorem aaz {P : Program} {e : TypeId} : ∀ {l : List (DataW H)} {d : DataW H}, d ∈ l → ∀ n ∈ d.weights P e, n ∈ DataW.weightsAll P e l
 | x :: r, d, h, n, hn => by
  unfold DataW.weightsAll
  rcases List.mem_cons.1 h with rfl | h
  ·exact List.mem_append_left _ hn
  ·exact List.mem_append_right _ (aaz h n hn)
set_option maxRecDepth 100000 in
theorem ah6 {ts : List TypeId} {ds : List (DataW H)} (h : (DataW.weightsEach Tryd.prog ts ds).all (· ≤ reachBytes) = true) {j : Nat} {l : List Bs} (ht : ts[j]? = some 22) (hd : ds[j]? = some d)
  (hdd : d = .nil ∧ l = [] ∨ ∃ es sp, d = .slice es sp ∧ es.length = l.length ∧ ∀ (i : Nat) (x : Bs), l[i]? = some x → ∃ y, es[i]? = some y ∧ y = (.lit (.string x) : DataW H)) : l.length ≤ 8796093022207 ∧ ∀ s ∈ l, s.length ≤ 140737488351232 := by
 rcases hdd with ⟨rfl, rfl⟩ | ⟨es, sp, rfl, hlen, hel⟩
 ·exact ⟨by simp, fun s hs => by cases hs⟩
 ·have hw : DataW.weights (H := H) Tryd.prog 22 (.slice es sp) = (es.length + sp.length) * Tryd.prog.bytesOf 9 :: (DataW.weightsAll Tryd.prog 9 es ++ DataW.weightsAll Tryd.prog 9 sp) := by
   simp [DataW.weights, Tryd.underlying22]
  have hm := DataW.weights_mem_each (P := Tryd.prog) ht hd
  rw [hw, show Tryd.prog.bytesOf 9 = 16 by kernel_rfl] at hm
  have hk := fun n hn => of_decide_eq_true (List.all_eq_true.1 h n (hm n hn))
  have h1 := hk _ (List.mem_cons_self ..)
  unfold reachBytes at h1
  refine ⟨by omega, fun s hs => ?_⟩
  obtain ⟨i, hi⟩ := List.mem_iff_getElem?.1 hs
  obtain ⟨y, hy, rfl⟩ := hel i s hi
  have h2 := hk s.length (List.mem_cons_of_mem _ (List.mem_append_left _ (aaz (List.mem_of_getElem? hy) _ (by simp [DataW.weights]))))
  unfold reachBytes at h2
  omega
end
end Go.Proofs.YtgocbiiolmmonaaDoor
namespace Go.Proofs.YtgocbiiolmmonaaDoor
open Go Go.ChangeShapes Go.WideShapes Go.ChangeAt Go.RowKit
theorem ak8 : (Tryd.prog.globals[6]?).map (·.type) = some 104 := by kernel_rfl
theorem ai6 : Tryd.prog.cellsOf 104 = 20 := by kernel_rfl
theorem aje : Tryd.prog.cellsOf 87 = 1 := by kernel_rfl
set_option maxRecDepth 100000 in
theorem aha {W : World} (h : laidMetH Tryd.prog agv W) : ∃ te fre, W.heap[6]? = some (.cells aan.toArray te fre) := by
 rw [aa2] at h
 have h2 : Lib.TabIs Tryd.prog W "internal/strconv.uint64pow10" .u64 Lib.pow10Tab :=
  Lib.tabIs_of_head ab5 ak8 Tryd.underlying104 Tryd.underlying87 aje ai6 (f8 (f8 h))
 unfold Lib.TabIs World.var? at h2
 rw [ab5, aio] at h2
 simp only [Option.bind_some] at h2
 split at h2
 ·rename_i cs t fr hg
  obtain rfl := Option.some.inj h2
  exact ⟨t, fr, hg⟩
 ·cases h2
theorem aij : "*" ++ "errors.errorString" = "*errors.errorString" := by decide
theorem ang (u : TypeId) (h : Tryd.prog.typeName? 3 u = some "*errors.errorString") : u = 138 :=
 typeName_ptr_named (nm := "errors.errorString") (by rw [aij]; kernel_rfl) (by kernel_rfl) (by decide) u (by rw [aij]; exact h)
theorem alo : Tryd.prog.cellsOf 140 = 1 := by kernel_rfl
theorem akw : Tryd.prog.cellsOf 9 = 1 := by kernel_rfl
set_option maxRecDepth 100000 in
theorem afz {n : String} {text : List UInt8} {r : List (String × DataW Unit)} {W : World} {g : Nat} (h : laidMet Tryd.prog ((n, .iface "*errors.errorString" (.ptr (.agg [.lit (.string text)]))) :: r) W) (hg : Tryd.prog.globalNamed n = some g) (ht : (Tryd.prog.globals[g]?).map (·.type) = some 40) :
  ∃ te fre a, W.heap[g]? = some (.cells [n4 a].toArray te fre) := by
 obtain ⟨a, s, h2, _⟩ := laid_sentinel h hg ht Tryd.underlying40 ang Tryd.underlying138 Tryd.underlying140 rfl rfl Tryd.underlying9 alo akw
 unfold World.var? at h2
 rw [hg] at h2
 simp only [Option.bind_some] at h2
 split at h2
 ·rename_i cs t fr hh
  obtain rfl := Option.some.inj h2
  exact ⟨t, fr, a, hh⟩
 ·cases h2
theorem amq : Tryd.prog.globalNamed "loupe/files.ErrMissing" = some 3 ∧ (Tryd.prog.globals[3]?).map (·.type) = some 40 := ⟨by kernel_rfl, by kernel_rfl⟩
theorem amp : Tryd.prog.globalNamed "loupe/files.ErrBroken" = some 2 ∧ (Tryd.prog.globals[2]?).map (·.type) = some 40 := ⟨by kernel_rfl, by kernel_rfl⟩
theorem amk : Tryd.prog.globalNamed "loupe/files.ErrFull" = some 0 ∧ (Tryd.prog.globals[0]?).map (·.type) = some 40 := ⟨by kernel_rfl, by kernel_rfl⟩
theorem ams : Tryd.prog.globalNamed "loupe/files.ErrBadName" = some 1 ∧ (Tryd.prog.globals[1]?).map (·.type) = some 40 := ⟨by kernel_rfl, by kernel_rfl⟩
set_option maxRecDepth 100000 in
theorem agt {f : FuncId} {vs : List Value} {v : Value} {W : World} {R : List (Nat × Obj)} (hL : laidMetH Tryd.prog agv W) (hR : ∀ q ∈ R, W.heap[q.1]? = some q.2)
  (h : ∀ te fre te2 fre2 te3 fre3 q0 te4 fre4 q1 te5 fre5 q2 te6 fre6 q3, i7 Tryd.prog f vs (R ++ (adn te fre ++ ((6, .cells aan.toArray te2 fre2) :: af6 te3 fre3 (n4 q0) te4 fre4 (n4 q1) te5 fre5 (n4 q2) te6 fre6 (n4 q3)))) [] (Ret v [])) :
  Calls Tryd.prog f vs.toArray W fun e W' => e = .returned v ∧ Below W.heap.size W W' := by
 obtain ⟨te, fre, he⟩ := ahu hL
 obtain ⟨te2, fre2, he2⟩ := aha hL
 have hP := hL
 rw [aa2] at hP
 have t7 := f8 (f8 (f8 (f8 (f8 (f8 (f8 hP))))))
 obtain ⟨te3, fre3, q0, he3⟩ := afz t7 amq.1 amq.2
 obtain ⟨te4, fre4, q1, he4⟩ := afz (f8 t7) amp.1 amp.2
 obtain ⟨te5, fre5, q2, he5⟩ := afz (f8 (f8 t7)) amk.1 amk.2
 obtain ⟨te6, fre6, q3, he6⟩ := afz (f8 (f8 (f8 t7))) ams.1 ams.2
 refine (h te fre te2 fre2 te3 fre3 q0 te4 fre4 q1 te5 fre5 q2 te6 fre6 q3 W [] rfl List.nodup_nil (fun k hk => by cases hk) (fun p hp => ?_)).mono ?_
 ·refine ⟨?_, fun hx => by cases hx⟩
  rcases List.mem_append.1 hp with hp | hp
  ·exact hR p hp
  ·rcases List.mem_append.1 hp with hp | hp
   ·obtain rfl := List.mem_singleton.1 hp; exact he
   ·simp only [List.mem_cons, List.mem_nil_iff, or_false] at hp
    rcases hp with rfl | rfl | rfl | rfl | rfl
    ·exact he2
    ·exact he3
    ·exact he4
    ·exact he5
    ·exact he6
 ·rintro en w' ⟨H', hS, hh⟩
  rcases hS with ⟨r, rfl, hS⟩ | ⟨c, rfl, hS⟩
  ·cases hS; exact ⟨rfl, hh.toBelow⟩
  ·cases hS
theorem aez (os : Os) : laidMet Tryd.prog Rows.topStoredRow.laid ((ac0 os).forCall (fun _ _ => 0) ⟨#[], #[.slice none 0 0, .string ByteArray.empty, .int .i64 0], []⟩).memory :=
 laidMet_of_run' 8 (by kernel_rfl) (by kernel_rfl)
theorem adb (os : Os) {H : Type} (enc : TypeId × Value → H) : ∃ places, DataW.whole enc Tryd.prog ((ac0 os).forCall (fun _ _ => 0) ⟨#[], #[.slice none 0 0, .string ByteArray.empty, .int .i64 0], []⟩).memory Tryd.f3.params.toList Rows.topStoredSpec.vars false (#[.slice none 0 0, .string ByteArray.empty, .int .i64 0] : Array Value).toList 8 = some ([.nil, .lit (.string []), .lit (.int .i64 0)], [], places) :=
 ⟨[], by kernel_rfl⟩
set_option maxRecDepth 100000 in
theorem acw (os : Os) (started : os.Started) (H : Type) (enc : TypeId × Value → H) (F : Stop.Interp) :
  ReturnsInHanded {} Tryd.checked os 3 .any ((OpenSpec.ofChange Rows.topStoredSpec).preRow enc Tryd.prog Tryd.f3 Rows.topStoredRow.domain false Rows.topStoredRow.laid) (((OpenSpec.ofChange Rows.topStoredSpec).at F).post enc Tryd.prog Tryd.f3 false true false false) := by
 obtain ⟨places, hx⟩ := adb os enc
 refine returnsInHanded_of_row (C := Tryd.checked) (s := OpenSpec.ofChange Rows.topStoredSpec) aj7 started (by kernel_rfl) Tryd.func3
  (witness_row_atRef (enc := enc) (C := Tryd.checked) false (ac0 os) #[.slice none 0 0, .string ByteArray.empty, .int .i64 0] rfl (by kernel_rfl) (by kernel_rfl) (by kernel_rfl)
   (OpenSpec.preRow_of_cond 8 hx (by kernel_rfl) (fun k hk => by cases hk) (by kernel_rfl) (aez os))) ?_
 intro W base args ds gs before hval0 hW _ hcond hwt0 hL _ _
 have hval : ∀ (j : Nat) t v, Tryd.f3.params[j]? = some t → args[j]? = some v → Value.okWide Tryd.prog W .any base t v := hval0
 have hW' : DataW.Whole enc Tryd.prog Tryd.f3.params.toList Rows.topStoredSpec.vars false W args.toList ds gs before := hW
 obtain ⟨p, q, hA0, hV, rfl, _, _⟩ := hW'
 have hA : DataW.TrodAll enc Tryd.prog W 0 (fun _ => true) true Tryd.f3.params.toList args.toList ds p := hA0
 have hwt : (DataW.weightsEach Tryd.prog (Tryd.f3.params.toList ++ Rows.topStoredSpec.plain.varTypes Tryd.prog) (ds ++ gs)).all (· ≤ reachBytes) = true := hwt0
 rw [Tryd.params3] at hA hval hwt
 obtain ⟨v0, v1, v2, d0, d1, d2, p0, p1, p2, rfl, rfl, rfl, h0, h1, h2⟩ := trodAll_three hA
 obtain ⟨rfl, rfl⟩ := trodVars_none hV
 obtain ⟨R0, l0, hR0, hRW0, e0⟩ := ai9 (hval 0 _ v0 rfl rfl) h0
 have r0 := ah6 hwt (j := 0) rfl rfl e0
 obtain ⟨a1, rfl, e1, _, _⟩ := ChangeMaps.open_string Tryd.underlying9 (hval 1 _ v1 rfl rfl) h1
 have y1 : a1.data.toList.length ≤ reachBytes := sized_string hwt (j := 1) (t := 9) rfl (by rw [e1]; rfl)
 obtain ⟨a2, rfl, e2, _, wm2⟩ := open_int Tryd.underlying3 (hval 2 _ v2 rfl rfl) h2
 have b2 := amv wm2
 have r1 : a1.data.toList.length ≤ 140737488351232 := y1
 refine (agt hL hRW0 (fun te fre te2 fre2 te3 fre3 q0 te4 fre4 q1 te5 fre5 q2 te6 fre6 q3 => agh te fre te2 fre2 te3 fre3 q0 te4 fre4 q1 te5 fre5 q2 te6 fre6 q3 v0 l0 r0 a1.data.toList r1 a2 b2 R0 hR0)).mono fun e W' ⟨he, hb⟩ => ?_
 subst he
 exact ⟨_, rfl, aj0 aky rfl Tryd.underlying4 (by kernel_rfl) rfl hW rfl hb⟩
theorem ad3 : Rows.TopStoredSaid :=
 OpenClaim.holds_of_cond 3 Tryd.f3 rfl rfl rfl rfl rfl rfl rfl ⟨rfl, rfl, rfl, rfl, rfl⟩ rfl rfl rfl rfl rfl (by kernel_rfl) Tryd.func3 (by kernel_rfl)
  (of_decide_eq_true (by kernel_rfl)) (by unfold Func.isWrapper; rw [if_neg (of_decide_eq_false (by kernel_rfl))]; exact ⟨rfl, rfl⟩)
  (fun os started H enc _ F => by rw [OpenClaim.pre_eq_preRow]; exact acw os started H enc F)
theorem topStored_card_holds : Rows.TopStoredCardSaid :=
 Claim7.holds_tied_plain_at .later [] _ _ _ _ ad3 (fun _ h => by cases h) (by kernel_rfl) (fun _ h => by cases h) topStored_row_tie rfl ⟨rfl, rfl⟩ (by kernel_rfl) rfl
  (fun f fn hf hfn => by
   obtain rfl : f = 3 := Option.some.inj ((show Tryd.prog.funcNamed "loupe/loupetop.TopStored" = some 3 by kernel_rfl).symm.trans hf) |>.symm
   obtain rfl : fn = Tryd.f3 := (Option.some.inj (Tryd.func3.symm.trans hfn)).symm
   refine ⟨by kernel_rfl, fun j t ht => ?_⟩
   rw [Tryd.params3] at ht
   have h3 : t = 22 ∨ t = 9 ∨ t = 3 := by simpa using Array.mem_of_getElem? ht
   rcases h3 with rfl | rfl | rfl
   ·exact (show Tryd.prog.wantsStandIn 22 = false by kernel_rfl)
   ·exact (show Tryd.prog.wantsStandIn 9 = false by kernel_rfl)
   ·exact (show Tryd.prog.wantsStandIn 3 = false by kernel_rfl))
  (by kernel_rfl)
end Go.Proofs.YtgocbiiolmmonaaDoor
