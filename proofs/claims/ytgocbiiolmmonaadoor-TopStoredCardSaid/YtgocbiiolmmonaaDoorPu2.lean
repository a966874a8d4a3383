/-
  Merged: ArV, ArN.
-/
import Derived.Test.YtgocbiiolmmonaaDoorPu1
namespace Go.Proofs.YtgocbiiolmmonaaDoor
open Go Go.RowKit
abbrev zP (b : Nat) : Value := Value.pointer (some ⟨b, 0, none⟩)
abbrev zI (i : Int) : Value := Value.int .i64 i
abbrev zU (i : Int) : Value := Value.int .u8 i
abbrev zB (b : Bool) : Value := Value.bool b
theorem wv {P : Program} {ops : Array Oper} {Q : Exit → Act → World → Prop} {C : Cx} {L : Sl} {H : List HA} {rest : List Oper} {o : Oper} {v : Value} {d : Nat} (hv : OV P C L H o v) (h : WL P ops Q C ((d, v) :: L) H rest) (hw : j4 ops L o = some true := by exact rfl) (hd : o.dst = some d := by exact rfl) (hn : Nat.blt d C.n = true := by exact rfl) : WL P ops Q C L H (o :: rest) := WL.val hv hw hd hn h
theorem kg {C : Cx} {L L' : Sl} {H : List HA} {K : Act → World → Prop} (h : KX K C L' H) (hs : Sub L L' := by repeat (first | exact trivial | refine ⟨rfl, ?_⟩)) : KX K C L H := KX.go h hs
theorem kh {C : Cx} {L L' : Sl} {H H' : List HA} {K : Act → World → Prop} (h : KX K C L' H') (idx : List Nat) (hs : Sub L L' := by repeat (first | exact trivial | refine ⟨rfl, ?_⟩)) (hi : n3 idx = true := by exact rfl) (he : sel H idx = H' := by exact rfl) : KX K C L H := KX.goH h hs idx hi he
theorem wk {P : Program} {ops : Array Oper} {Q : Exit → Act → World → Prop} {C : Cx} {L : Sl} {H : List HA} {rest : List Oper} {o : Oper} {d : Nat} (h : WL P ops Q C ((d, undef) :: L) H rest) (hw : j4 ops L o = some false := by exact rfl) (hd : o.dst = some d := by exact rfl) (hn : Nat.blt d C.n = true := by exact rfl) : WL P ops Q C L H (o :: rest) := WL.skip hw hd hn h
theorem wm {P : Program} {ops : Array Oper} {Q : Exit → Act → World → Prop} {C : Cx} {L : Sl} {H : List HA} {rest : List Oper} {x : Operand} {ty : TypeId} {p : String} {e : Array Edge} {g : Option (Nat × Bool)} {v : Value} {d : Nat} (h : WL P ops Q C ((d, v) :: L) H rest) (hx : ev L x = some v := by exact rfl) (hw : j4 ops L ⟨some d, .move x, ty, p, e, g⟩ = some true := by exact rfl) (hn : Nat.blt d C.n = true := by exact rfl) : WL P ops Q C L H (⟨some d, .move x, ty, p, e, g⟩ :: rest) := WL.val (OV.move hx) hw rfl hn h
theorem wA {P : Program} {ops : Array Oper} {Q : Exit → Act → World → Prop} {C : Cx} {L : Sl} {H : List HA} {rest : List Oper} {x : Operand} {ty : TypeId} {p : String} {e : Array Edge} {g : Option (Nat × Bool)} {v : Value} {d : Nat} (h : WL P ops Q C ((d, v) :: L) H rest) (hx : ev L x = some v := by exact rfl) (hw : j4 ops L ⟨some d, .assign x, ty, p, e, g⟩ = some true := by exact rfl) (hn : Nat.blt d C.n = true := by exact rfl) : WL P ops Q C L H (⟨some d, .assign x, ty, p, e, g⟩ :: rest) := WL.val (OV.assign hx) hw rfl hn h
theorem fv {P : Program} {ops : Array Oper} {T : World → i8 → Act → Prop} {C : Cx} {L : FSl} {H : List HA} {zl : List (Nat × Obj)} {k : Nat} {rest : List Oper} {o : Oper} {v : Value} {d : Nat} (hv : ∀ β, OV P C (L β) H o v) (h : FL P ops T C (fun β => (d, v) :: L β) H zl (k + 1) rest) (hz : n6 zl k = none := by exact rfl) (hw : ∀ β, j4 ops (L β) o = some true := by exact fun _ => rfl) (hd : o.dst = some d := by exact rfl) (hn : Nat.blt d C.n = true := by exact rfl) : FL P ops T C L H zl k (o :: rest) := FL.val hv hz hw hd hn h
end Go.Proofs.YtgocbiiolmmonaaDoor
set_option maxRecDepth 100000
namespace Go.Proofs.YtgocbiiolmmonaaDoor
open Go Go.RowKit
theorem aey : g7 Tryd.prog 49 0 = some 0 := by kernel_rfl
theorem d3 : w9 Tryd.prog 9 = true := by kernel_rfl
theorem s6 : slB Tryd.prog 72 49 3 = true := by kernel_rfl
theorem f0 : RowT Tryd.prog 49 3 := ⟨by kernel_rfl, by kernel_rfl⟩
theorem q8 : n9 Tryd.prog 23 = true := by kernel_rfl
theorem n0 : ach Tryd.prog 49 = some [st [], st [], st []] := by kernel_rfl
theorem k7 : ahs Tryd.prog 73 49 10 3 = true := by kernel_rfl
theorem p9 : n9 Tryd.prog 22 = true := by kernel_rfl
theorem m7 : p8 Tryd.prog 49 3 = true := by kernel_rfl
def ahm (c : List UInt8) (s_0 : List UInt8) (_ : List UInt8) (_ : List UInt8) (K : Bool → Prop) : Prop :=
 K (decide (s_0 = c))
theorem aj4 (b : Nat) (c : List UInt8) (s_0 : List UInt8) (s_1 : List UInt8) (s_2 : List UInt8) (K : Bool → Prop) (h : ahm c s_0 s_1 s_2 K) :
  i7 Tryd.prog 23 [Value.agg [st s_0, st s_1, st s_2].toArray, zP b] [(b, .cells [st c].toArray 9 (0, 0))] [] (fun o => (∃ (v : Bool), K v ∧ o = .ret (zB v) []) ∨ (False)) := by
 unfold ahm at h
 refine d8 (n := 8) (L0 := [(0, Value.agg [st s_0, st s_1, st s_2].toArray), (1, zP b)]) Tryd.func23 rfl rfl rfl rfl (fun w0 M Q hE => ?_)
 refine a7 (fun _ hK => ?_)
 refine a6 ?_
 refine WL.make (MV.box (cs := [st s_0, st s_1, st s_2]) rfl rfl) rfl rfl rfl (fun b_1' => ?_)
 refine wA ?_
 refine WL.nil ?_
 refine kg (hK [(1, zP b), (2, zP b_1')] _ ?_)
 refine a7 (fun _ hK_1' => ?_)
 refine a6 ?_
 refine wv (OV.fieldAddr0 rfl aey) ?_
 refine wv (OV.load rfl (At.own 0 rfl) rfl d3) ?_
 refine wv (OV.load rfl (At.ro 0 rfl) rfl d3) ?_
 refine wv (OV.eqlS rfl rfl) ?_
 refine wA ?_
 refine WL.nil ?_
 refine kg (hK_1' [(3, zB (decide (s_0 = c)))] _ ?_)
 refine e7 ?_
 exact hE.ret [] rfl rfl (.inl ⟨_, h, rfl⟩) (j6.of1 rfl (RV.tmp rfl))
theorem o8 (a b c nm : Bs) (cb : Nat) : i7 Tryd.prog 23 [.agg [st a, st b, st c].toArray, .pointer (some ⟨cb, 0, none⟩)] [(cb, .cells [st nm].toArray 9 (0, 0))] [] (Ret (.bool (decide (a = nm))) []) :=
 i7.one (e := fun v => .bool v) (aj4 cb nm a b c (fun v => v = decide (a = nm)) rfl)
def aic (nm : List UInt8) (K : Int → Prop) : Prop :=
 (if (decide (([99, 104, 101, 99, 107] : List UInt8) = nm)) = true then
  K 0
 else
  (if (decide (([99, 111, 100, 101] : List UInt8) = nm)) = true then
   K 1
  else
   (if (decide (([119, 111, 114, 100, 115] : List UInt8) = nm)) = true then
    K 2
   else
    (if (decide (([103, 101, 116] : List UInt8) = nm)) = true then
     K 3
    else
     (if (decide (([99, 97, 110, 111, 110] : List UInt8) = nm)) = true then
      K 4
     else
      (if (decide (([119, 104, 101, 114, 101] : List UInt8) = nm)) = true then
       K 5
      else
       (if (decide (([115, 116, 114, 101, 97, 109] : List UInt8) = nm)) = true then
        K 6
       else
        (if (decide (([99, 114, 101, 97, 116, 101] : List UInt8) = nm)) = true then
         K 7
        else
         (if (decide (([112, 117, 116] : List UInt8) = nm)) = true then
          K 8
         else
          (if (decide (([101, 100, 105, 116] : List UInt8) = nm)) = true then
           K 9
          else
           K (-1)))))))))))
theorem am6 (cb : Nat) (te : TypeId) (fre : Nat × Nat) (nm : List UInt8) (K : Int → Prop) (h : aic nm K) :
  i7 Tryd.prog 22 [Value.slice (some ⟨4, 0, none⟩) 10 10, Value.func (.func 23) #[] [zP cb].toArray] [(cb, .cells [st nm].toArray 9 (0, 0)), (4, .cells [st ([99, 104, 101, 99, 107] : List UInt8), st ([108] : List UInt8), st ([98] : List UInt8), st ([99, 111, 100, 101] : List UInt8), st ([108] : List UInt8), st ([98] : List UInt8), st ([119, 111, 114, 100, 115] : List UInt8), st ([108] : List UInt8), st ([98, 110] : List UInt8), st ([103, 101, 116] : List UInt8), st ([108, 115] : List UInt8), st ([98, 111] : List UInt8), st ([99, 97, 110, 111, 110] : List UInt8), st ([108, 115] : List UInt8), st ([98, 111] : List UInt8), st ([119, 104, 101, 114, 101] : List UInt8), st ([108, 115] : List UInt8), st ([98] : List UInt8), st ([115, 116, 114, 101, 97, 109] : List UInt8), st ([108, 115] : List UInt8), st ([98, 99] : List UInt8), st ([99, 114, 101, 97, 116, 101] : List UInt8), st ([108, 118] : List UInt8), st ([98, 111] : List UInt8), st ([112, 117, 116] : List UInt8), st ([108, 118, 115] : List UInt8), st ([98, 111] : List UInt8), st ([101, 100, 105, 116] : List UInt8), st ([108, 115, 97, 100, 116] : List UInt8), st ([98, 111] : List UInt8)].toArray te fre)] [] (fun o => (∃ (v : Int), K v ∧ o = .ret (zI v) []) ∨ (False)) := by
 unfold aic at h
 refine d8 (n := 19) (L0 := [(0, Value.slice (some ⟨4, 0, none⟩) 10 10), (1, Value.func (.func 23) #[] [zP cb].toArray)]) Tryd.func22 rfl rfl rfl rfl (fun w0 M Q hE => ?_)
 refine a7 (fun _ hK => ?_)
 refine a6 ?_
 refine wA ?_
 refine WL.nil ?_
 refine kg (hK [(0, Value.slice (some ⟨4, 0, none⟩) 10 10), (1, Value.func (.func 23) #[] [zP cb].toArray)] _ ?_)
 refine a7 (fun _ hK_1' => ?_)
 refine a7 (fun _ hK_2' => ?_)
 refine a6 ?_
 refine wm ?_
 refine wv (OV.lenS rfl s6) ?_
 refine wm ?_
 refine WL.nil ?_
 refine kg (hK_2' [(0, Value.slice (some ⟨4, 0, none⟩) 10 10), (1, Value.func (.func 23) #[] [zP cb].toArray), (7, zI 10), (8, zI 0)] _ ?_)
 refine d7 ?_
 refine abi 11 ?_
 refine RC.succ (fun K0_3' hK_3' => ?_)
 refine a7 (fun _ hK_4' => ?_)
 refine a6 ?_
 refine wv (OV.lss rfl rfl) ?_
 refine WL.nil ?_
 refine kg (hK_4' [(0, Value.slice (some ⟨4, 0, none⟩) 10 10), (1, Value.func (.func 23) #[] [zP cb].toArray), (7, zI 10), (8, zI 0), (9, zB true)] _ ?_)
 refine a7 (fun _ hK_5' => ?_)
 refine j2 rfl ?_
 refine b8 ?_
 refine kg (hK_5' [(0, Value.slice (some ⟨4, 0, none⟩) 10 10), (1, Value.func (.func 23) #[] [zP cb].toArray), (7, zI 10), (8, zI 0)] _ ?_)
 refine a7 (fun _ hK_6' => ?_)
 refine d7 ?_
 refine a7 (fun _ hK_7' => ?_)
 refine a6 ?_
 refine wm ?_
 refine wA ?_
 refine WL.nil ?_
 refine kg (hK_7' [(0, Value.slice (some ⟨4, 0, none⟩) 10 10), (1, Value.func (.func 23) #[] [zP cb].toArray), (5, zI 0), (7, zI 10), (8, zI 0)] _ ?_)
 refine a7 (fun _ hK_8' => ?_)
 refine a6 ?_
 refine wm ?_
 refine wm ?_
 refine wm ?_
 refine wv (OV.indexSl rfl rfl s6 (by decide) rfl) ?_
 refine wv (OV.loadM (vs := [st ([99, 104, 101, 99, 107] : List UInt8), st ([108] : List UInt8), st ([98] : List UInt8)]) rfl (At.ro 1 rfl) rfl f0) ?_
 refine WL.enter (A := []) (EN.value rfl q8 rfl) rfl (o8 ([99, 104, 101, 99, 107] : List UInt8) ([108] : List UInt8) ([98] : List UInt8) nm cb) rfl ⟨.inr (List.mem_of_getElem? (i := 0) rfl), trivial⟩ rfl rfl ?_
 refine WL.nil ?_
 refine kg (hK_8' [(0, Value.slice (some ⟨4, 0, none⟩) 10 10), (1, Value.func (.func 23) #[] [zP cb].toArray), (5, zI 0), (7, zI 10), (8, zI 0), (16, zB (decide (([99, 104, 101, 99, 107] : List UInt8) = nm)))] _ ?_)
 refine d4 (b := decide (([99, 104, 101, 99, 107] : List UInt8) = nm)) rfl (fun hb => ?_) (fun hb => ?_)
 ·replace h := k9 h hb
  refine a7 (fun _ hK_9' => ?_)
  refine a6 ?_
  refine wm ?_
  refine wA ?_
  refine WL.nil ?_
  refine kg (hK_9' [(4, zI 0)] _ ?_)
  refine e7 ?_
  exact hE.ret [] rfl rfl (.inl ⟨_, h, rfl⟩) (j6.of1 rfl (RV.tmp rfl))
 ·replace h := l6 h hb
  refine b8 ?_
  refine kg (hK_6' [(0, Value.slice (some ⟨4, 0, none⟩) 10 10), (1, Value.func (.func 23) #[] [zP cb].toArray), (7, zI 10), (8, zI 0)] _ ?_)
  refine a6 ?_
  refine wv (OV.add rfl rfl ⟨by decide, by decide⟩) ?_
  refine wm ?_
  refine WL.nil ?_
  refine kg (hK_3' [(0, Value.slice (some ⟨4, 0, none⟩) 10 10), (1, Value.func (.func 23) #[] [zP cb].toArray), (7, zI 10), (8, zI 1)] _ ?_)
  refine RC.succ (fun K0_10' hK_10' => ?_)
  refine a7 (fun _ hK_11' => ?_)
  refine a6 ?_
  refine wv (OV.lss rfl rfl) ?_
  refine WL.nil ?_
  refine kg (hK_11' [(0, Value.slice (some ⟨4, 0, none⟩) 10 10), (1, Value.func (.func 23) #[] [zP cb].toArray), (7, zI 10), (8, zI 1), (9, zB true)] _ ?_)
  refine a7 (fun _ hK_12' => ?_)
  refine j2 rfl ?_
  refine b8 ?_
  refine kg (hK_12' [(0, Value.slice (some ⟨4, 0, none⟩) 10 10), (1, Value.func (.func 23) #[] [zP cb].toArray), (7, zI 10), (8, zI 1)] _ ?_)
  refine a7 (fun _ hK_13' => ?_)
  refine d7 ?_
  refine a7 (fun _ hK_14' => ?_)
  refine a6 ?_
  refine wm ?_
  refine wA ?_
  refine WL.nil ?_
  refine kg (hK_14' [(0, Value.slice (some ⟨4, 0, none⟩) 10 10), (1, Value.func (.func 23) #[] [zP cb].toArray), (5, zI 1), (7, zI 10), (8, zI 1)] _ ?_)
  refine a7 (fun _ hK_15' => ?_)
  refine a6 ?_
  refine wm ?_
  refine wm ?_
  refine wm ?_
  refine wv (OV.indexSl rfl rfl s6 (by decide) rfl) ?_
  refine wv (OV.loadM (vs := [st ([99, 111, 100, 101] : List UInt8), st ([108] : List UInt8), st ([98] : List UInt8)]) rfl (At.ro 1 rfl) rfl f0) ?_
  refine WL.enter (A := []) (EN.value rfl q8 rfl) rfl (o8 ([99, 111, 100, 101] : List UInt8) ([108] : List UInt8) ([98] : List UInt8) nm cb) rfl ⟨.inr (List.mem_of_getElem? (i := 0) rfl), trivial⟩ rfl rfl ?_
  refine WL.nil ?_
  refine kg (hK_15' [(0, Value.slice (some ⟨4, 0, none⟩) 10 10), (1, Value.func (.func 23) #[] [zP cb].toArray), (5, zI 1), (7, zI 10), (8, zI 1), (16, zB (decide (([99, 111, 100, 101] : List UInt8) = nm)))] _ ?_)
  refine d4 (b := decide (([99, 111, 100, 101] : List UInt8) = nm)) rfl (fun hb => ?_) (fun hb => ?_)
  ·replace h := k9 h hb
   refine a7 (fun _ hK_16' => ?_)
   refine a6 ?_
   refine wm ?_
   refine wA ?_
   refine WL.nil ?_
   refine kg (hK_16' [(4, zI 1)] _ ?_)
   refine e7 ?_
   exact hE.ret [] rfl rfl (.inl ⟨_, h, rfl⟩) (j6.of1 rfl (RV.tmp rfl))
  ·replace h := l6 h hb
   refine b8 ?_
   refine kg (hK_13' [(0, Value.slice (some ⟨4, 0, none⟩) 10 10), (1, Value.func (.func 23) #[] [zP cb].toArray), (7, zI 10), (8, zI 1)] _ ?_)
   refine a6 ?_
   refine wv (OV.add rfl rfl ⟨by decide, by decide⟩) ?_
   refine wm ?_
   refine WL.nil ?_
   refine kg (hK_10' [(0, Value.slice (some ⟨4, 0, none⟩) 10 10), (1, Value.func (.func 23) #[] [zP cb].toArray), (7, zI 10), (8, zI 2)] _ ?_)
   refine RC.succ (fun K0_17' hK_17' => ?_)
   refine a7 (fun _ hK_18' => ?_)
   refine a6 ?_
   refine wv (OV.lss rfl rfl) ?_
   refine WL.nil ?_
   refine kg (hK_18' [(0, Value.slice (some ⟨4, 0, none⟩) 10 10), (1, Value.func (.func 23) #[] [zP cb].toArray), (7, zI 10), (8, zI 2), (9, zB true)] _ ?_)
   refine a7 (fun _ hK_19' => ?_)
   refine j2 rfl ?_
   refine b8 ?_
   refine kg (hK_19' [(0, Value.slice (some ⟨4, 0, none⟩) 10 10), (1, Value.func (.func 23) #[] [zP cb].toArray), (7, zI 10), (8, zI 2)] _ ?_)
   refine a7 (fun _ hK_20' => ?_)
   refine d7 ?_
   refine a7 (fun _ hK_21' => ?_)
   refine a6 ?_
   refine wm ?_
   refine wA ?_
   refine WL.nil ?_
   refine kg (hK_21' [(0, Value.slice (some ⟨4, 0, none⟩) 10 10), (1, Value.func (.func 23) #[] [zP cb].toArray), (5, zI 2), (7, zI 10), (8, zI 2)] _ ?_)
   refine a7 (fun _ hK_22' => ?_)
   refine a6 ?_
   refine wm ?_
   refine wm ?_
   refine wm ?_
   refine wv (OV.indexSl rfl rfl s6 (by decide) rfl) ?_
   refine wv (OV.loadM (vs := [st ([119, 111, 114, 100, 115] : List UInt8), st ([108] : List UInt8), st ([98, 110] : List UInt8)]) rfl (At.ro 1 rfl) rfl f0) ?_
   refine WL.enter (A := []) (EN.value rfl q8 rfl) rfl (o8 ([119, 111, 114, 100, 115] : List UInt8) ([108] : List UInt8) ([98, 110] : List UInt8) nm cb) rfl ⟨.inr (List.mem_of_getElem? (i := 0) rfl), trivial⟩ rfl rfl ?_
   refine WL.nil ?_
   refine kg (hK_22' [(0, Value.slice (some ⟨4, 0, none⟩) 10 10), (1, Value.func (.func 23) #[] [zP cb].toArray), (5, zI 2), (7, zI 10), (8, zI 2), (16, zB (decide (([119, 111, 114, 100, 115] : List UInt8) = nm)))] _ ?_)
   refine d4 (b := decide (([119, 111, 114, 100, 115] : List UInt8) = nm)) rfl (fun hb => ?_) (fun hb => ?_)
   ·replace h := k9 h hb
    refine a7 (fun _ hK_23' => ?_)
    refine a6 ?_
    refine wm ?_
    refine wA ?_
    refine WL.nil ?_
    refine kg (hK_23' [(4, zI 2)] _ ?_)
    refine e7 ?_
    exact hE.ret [] rfl rfl (.inl ⟨_, h, rfl⟩) (j6.of1 rfl (RV.tmp rfl))
   ·replace h := l6 h hb
    refine b8 ?_
    refine kg (hK_20' [(0, Value.slice (some ⟨4, 0, none⟩) 10 10), (1, Value.func (.func 23) #[] [zP cb].toArray), (7, zI 10), (8, zI 2)] _ ?_)
    refine a6 ?_
    refine wv (OV.add rfl rfl ⟨by decide, by decide⟩) ?_
    refine wm ?_
    refine WL.nil ?_
    refine kg (hK_17' [(0, Value.slice (some ⟨4, 0, none⟩) 10 10), (1, Value.func (.func 23) #[] [zP cb].toArray), (7, zI 10), (8, zI 3)] _ ?_)
    refine RC.succ (fun K0_24' hK_24' => ?_)
    refine a7 (fun _ hK_25' => ?_)
    refine a6 ?_
    refine wv (OV.lss rfl rfl) ?_
    refine WL.nil ?_
    refine kg (hK_25' [(0, Value.slice (some ⟨4, 0, none⟩) 10 10), (1, Value.func (.func 23) #[] [zP cb].toArray), (7, zI 10), (8, zI 3), (9, zB true)] _ ?_)
    refine a7 (fun _ hK_26' => ?_)
    refine j2 rfl ?_
    refine b8 ?_
    refine kg (hK_26' [(0, Value.slice (some ⟨4, 0, none⟩) 10 10), (1, Value.func (.func 23) #[] [zP cb].toArray), (7, zI 10), (8, zI 3)] _ ?_)
    refine a7 (fun _ hK_27' => ?_)
    refine d7 ?_
    refine a7 (fun _ hK_28' => ?_)
    refine a6 ?_
    refine wm ?_
    refine wA ?_
    refine WL.nil ?_
    refine kg (hK_28' [(0, Value.slice (some ⟨4, 0, none⟩) 10 10), (1, Value.func (.func 23) #[] [zP cb].toArray), (5, zI 3), (7, zI 10), (8, zI 3)] _ ?_)
    refine a7 (fun _ hK_29' => ?_)
    refine a6 ?_
    refine wm ?_
    refine wm ?_
    refine wm ?_
    refine wv (OV.indexSl rfl rfl s6 (by decide) rfl) ?_
    refine wv (OV.loadM (vs := [st ([103, 101, 116] : List UInt8), st ([108, 115] : List UInt8), st ([98, 111] : List UInt8)]) rfl (At.ro 1 rfl) rfl f0) ?_
    refine WL.enter (A := []) (EN.value rfl q8 rfl) rfl (o8 ([103, 101, 116] : List UInt8) ([108, 115] : List UInt8) ([98, 111] : List UInt8) nm cb) rfl ⟨.inr (List.mem_of_getElem? (i := 0) rfl), trivial⟩ rfl rfl ?_
    refine WL.nil ?_
    refine kg (hK_29' [(0, Value.slice (some ⟨4, 0, none⟩) 10 10), (1, Value.func (.func 23) #[] [zP cb].toArray), (5, zI 3), (7, zI 10), (8, zI 3), (16, zB (decide (([103, 101, 116] : List UInt8) = nm)))] _ ?_)
    refine d4 (b := decide (([103, 101, 116] : List UInt8) = nm)) rfl (fun hb => ?_) (fun hb => ?_)
    ·replace h := k9 h hb
     refine a7 (fun _ hK_30' => ?_)
     refine a6 ?_
     refine wm ?_
     refine wA ?_
     refine WL.nil ?_
     refine kg (hK_30' [(4, zI 3)] _ ?_)
     refine e7 ?_
     exact hE.ret [] rfl rfl (.inl ⟨_, h, rfl⟩) (j6.of1 rfl (RV.tmp rfl))
    ·replace h := l6 h hb
     refine b8 ?_
     refine kg (hK_27' [(0, Value.slice (some ⟨4, 0, none⟩) 10 10), (1, Value.func (.func 23) #[] [zP cb].toArray), (7, zI 10), (8, zI 3)] _ ?_)
     refine a6 ?_
     refine wv (OV.add rfl rfl ⟨by decide, by decide⟩) ?_
     refine wm ?_
     refine WL.nil ?_
     refine kg (hK_24' [(0, Value.slice (some ⟨4, 0, none⟩) 10 10), (1, Value.func (.func 23) #[] [zP cb].toArray), (7, zI 10), (8, zI 4)] _ ?_)
     refine RC.succ (fun K0_31' hK_31' => ?_)
     refine a7 (fun _ hK_32' => ?_)
     refine a6 ?_
     refine wv (OV.lss rfl rfl) ?_
     refine WL.nil ?_
     refine kg (hK_32' [(0, Value.slice (some ⟨4, 0, none⟩) 10 10), (1, Value.func (.func 23) #[] [zP cb].toArray), (7, zI 10), (8, zI 4), (9, zB true)] _ ?_)
     refine a7 (fun _ hK_33' => ?_)
     refine j2 rfl ?_
     refine b8 ?_
     refine kg (hK_33' [(0, Value.slice (some ⟨4, 0, none⟩) 10 10), (1, Value.func (.func 23) #[] [zP cb].toArray), (7, zI 10), (8, zI 4)] _ ?_)
     refine a7 (fun _ hK_34' => ?_)
     refine d7 ?_
     refine a7 (fun _ hK_35' => ?_)
     refine a6 ?_
     refine wm ?_
     refine wA ?_
     refine WL.nil ?_
     refine kg (hK_35' [(0, Value.slice (some ⟨4, 0, none⟩) 10 10), (1, Value.func (.func 23) #[] [zP cb].toArray), (5, zI 4), (7, zI 10), (8, zI 4)] _ ?_)
     refine a7 (fun _ hK_36' => ?_)
     refine a6 ?_
     refine wm ?_
     refine wm ?_
     refine wm ?_
     refine wv (OV.indexSl rfl rfl s6 (by decide) rfl) ?_
     refine wv (OV.loadM (vs := [st ([99, 97, 110, 111, 110] : List UInt8), st ([108, 115] : List UInt8), st ([98, 111] : List UInt8)]) rfl (At.ro 1 rfl) rfl f0) ?_
     refine WL.enter (A := []) (EN.value rfl q8 rfl) rfl (o8 ([99, 97, 110, 111, 110] : List UInt8) ([108, 115] : List UInt8) ([98, 111] : List UInt8) nm cb) rfl ⟨.inr (List.mem_of_getElem? (i := 0) rfl), trivial⟩ rfl rfl ?_
     refine WL.nil ?_
     refine kg (hK_36' [(0, Value.slice (some ⟨4, 0, none⟩) 10 10), (1, Value.func (.func 23) #[] [zP cb].toArray), (5, zI 4), (7, zI 10), (8, zI 4), (16, zB (decide (([99, 97, 110, 111, 110] : List UInt8) = nm)))] _ ?_)
     refine d4 (b := decide (([99, 97, 110, 111, 110] : List UInt8) = nm)) rfl (fun hb => ?_) (fun hb => ?_)
     ·replace h := k9 h hb
      refine a7 (fun _ hK_37' => ?_)
      refine a6 ?_
      refine wm ?_
      refine wA ?_
      refine WL.nil ?_
      refine kg (hK_37' [(4, zI 4)] _ ?_)
      refine e7 ?_
      exact hE.ret [] rfl rfl (.inl ⟨_, h, rfl⟩) (j6.of1 rfl (RV.tmp rfl))
     ·replace h := l6 h hb
      refine b8 ?_
      refine kg (hK_34' [(0, Value.slice (some ⟨4, 0, none⟩) 10 10), (1, Value.func (.func 23) #[] [zP cb].toArray), (7, zI 10), (8, zI 4)] _ ?_)
      refine a6 ?_
      refine wv (OV.add rfl rfl ⟨by decide, by decide⟩) ?_
      refine wm ?_
      refine WL.nil ?_
      refine kg (hK_31' [(0, Value.slice (some ⟨4, 0, none⟩) 10 10), (1, Value.func (.func 23) #[] [zP cb].toArray), (7, zI 10), (8, zI 5)] _ ?_)
      refine RC.succ (fun K0_38' hK_38' => ?_)
      refine a7 (fun _ hK_39' => ?_)
      refine a6 ?_
      refine wv (OV.lss rfl rfl) ?_
      refine WL.nil ?_
      refine kg (hK_39' [(0, Value.slice (some ⟨4, 0, none⟩) 10 10), (1, Value.func (.func 23) #[] [zP cb].toArray), (7, zI 10), (8, zI 5), (9, zB true)] _ ?_)
      refine a7 (fun _ hK_40' => ?_)
      refine j2 rfl ?_
      refine b8 ?_
      refine kg (hK_40' [(0, Value.slice (some ⟨4, 0, none⟩) 10 10), (1, Value.func (.func 23) #[] [zP cb].toArray), (7, zI 10), (8, zI 5)] _ ?_)
      refine a7 (fun _ hK_41' => ?_)
      refine d7 ?_
      refine a7 (fun _ hK_42' => ?_)
      refine a6 ?_
      refine wm ?_
      refine wA ?_
      refine WL.nil ?_
      refine kg (hK_42' [(0, Value.slice (some ⟨4, 0, none⟩) 10 10), (1, Value.func (.func 23) #[] [zP cb].toArray), (5, zI 5), (7, zI 10), (8, zI 5)] _ ?_)
      refine a7 (fun _ hK_43' => ?_)
      refine a6 ?_
      refine wm ?_
      refine wm ?_
      refine wm ?_
      refine wv (OV.indexSl rfl rfl s6 (by decide) rfl) ?_
      refine wv (OV.loadM (vs := [st ([119, 104, 101, 114, 101] : List UInt8), st ([108, 115] : List UInt8), st ([98] : List UInt8)]) rfl (At.ro 1 rfl) rfl f0) ?_
      refine WL.enter (A := []) (EN.value rfl q8 rfl) rfl (o8 ([119, 104, 101, 114, 101] : List UInt8) ([108, 115] : List UInt8) ([98] : List UInt8) nm cb) rfl ⟨.inr (List.mem_of_getElem? (i := 0) rfl), trivial⟩ rfl rfl ?_
      refine WL.nil ?_
      refine kg (hK_43' [(0, Value.slice (some ⟨4, 0, none⟩) 10 10), (1, Value.func (.func 23) #[] [zP cb].toArray), (5, zI 5), (7, zI 10), (8, zI 5), (16, zB (decide (([119, 104, 101, 114, 101] : List UInt8) = nm)))] _ ?_)
      refine d4 (b := decide (([119, 104, 101, 114, 101] : List UInt8) = nm)) rfl (fun hb => ?_) (fun hb => ?_)
      ·replace h := k9 h hb
       refine a7 (fun _ hK_44' => ?_)
       refine a6 ?_
       refine wm ?_
       refine wA ?_
       refine WL.nil ?_
       refine kg (hK_44' [(4, zI 5)] _ ?_)
       refine e7 ?_
       exact hE.ret [] rfl rfl (.inl ⟨_, h, rfl⟩) (j6.of1 rfl (RV.tmp rfl))
      ·replace h := l6 h hb
       refine b8 ?_
       refine kg (hK_41' [(0, Value.slice (some ⟨4, 0, none⟩) 10 10), (1, Value.func (.func 23) #[] [zP cb].toArray), (7, zI 10), (8, zI 5)] _ ?_)
       refine a6 ?_
       refine wv (OV.add rfl rfl ⟨by decide, by decide⟩) ?_
       refine wm ?_
       refine WL.nil ?_
       refine kg (hK_38' [(0, Value.slice (some ⟨4, 0, none⟩) 10 10), (1, Value.func (.func 23) #[] [zP cb].toArray), (7, zI 10), (8, zI 6)] _ ?_)
       refine RC.succ (fun K0_45' hK_45' => ?_)
       refine a7 (fun _ hK_46' => ?_)
       refine a6 ?_
       refine wv (OV.lss rfl rfl) ?_
       refine WL.nil ?_
       refine kg (hK_46' [(0, Value.slice (some ⟨4, 0, none⟩) 10 10), (1, Value.func (.func 23) #[] [zP cb].toArray), (7, zI 10), (8, zI 6), (9, zB true)] _ ?_)
       refine a7 (fun _ hK_47' => ?_)
       refine j2 rfl ?_
       refine b8 ?_
       refine kg (hK_47' [(0, Value.slice (some ⟨4, 0, none⟩) 10 10), (1, Value.func (.func 23) #[] [zP cb].toArray), (7, zI 10), (8, zI 6)] _ ?_)
       refine a7 (fun _ hK_48' => ?_)
       refine d7 ?_
       refine a7 (fun _ hK_49' => ?_)
       refine a6 ?_
       refine wm ?_
       refine wA ?_
       refine WL.nil ?_
       refine kg (hK_49' [(0, Value.slice (some ⟨4, 0, none⟩) 10 10), (1, Value.func (.func 23) #[] [zP cb].toArray), (5, zI 6), (7, zI 10), (8, zI 6)] _ ?_)
       refine a7 (fun _ hK_50' => ?_)
       refine a6 ?_
       refine wm ?_
       refine wm ?_
       refine wm ?_
       refine wv (OV.indexSl rfl rfl s6 (by decide) rfl) ?_
       refine wv (OV.loadM (vs := [st ([115, 116, 114, 101, 97, 109] : List UInt8), st ([108, 115] : List UInt8), st ([98, 99] : List UInt8)]) rfl (At.ro 1 rfl) rfl f0) ?_
       refine WL.enter (A := []) (EN.value rfl q8 rfl) rfl (o8 ([115, 116, 114, 101, 97, 109] : List UInt8) ([108, 115] : List UInt8) ([98, 99] : List UInt8) nm cb) rfl ⟨.inr (List.mem_of_getElem? (i := 0) rfl), trivial⟩ rfl rfl ?_
       refine WL.nil ?_
       refine kg (hK_50' [(0, Value.slice (some ⟨4, 0, none⟩) 10 10), (1, Value.func (.func 23) #[] [zP cb].toArray), (5, zI 6), (7, zI 10), (8, zI 6), (16, zB (decide (([115, 116, 114, 101, 97, 109] : List UInt8) = nm)))] _ ?_)
       refine d4 (b := decide (([115, 116, 114, 101, 97, 109] : List UInt8) = nm)) rfl (fun hb => ?_) (fun hb => ?_)
       ·replace h := k9 h hb
        refine a7 (fun _ hK_51' => ?_)
        refine a6 ?_
        refine wm ?_
        refine wA ?_
        refine WL.nil ?_
        refine kg (hK_51' [(4, zI 6)] _ ?_)
        refine e7 ?_
        exact hE.ret [] rfl rfl (.inl ⟨_, h, rfl⟩) (j6.of1 rfl (RV.tmp rfl))
       ·replace h := l6 h hb
        refine b8 ?_
        refine kg (hK_48' [(0, Value.slice (some ⟨4, 0, none⟩) 10 10), (1, Value.func (.func 23) #[] [zP cb].toArray), (7, zI 10), (8, zI 6)] _ ?_)
        refine a6 ?_
        refine wv (OV.add rfl rfl ⟨by decide, by decide⟩) ?_
        refine wm ?_
        refine WL.nil ?_
        refine kg (hK_45' [(0, Value.slice (some ⟨4, 0, none⟩) 10 10), (1, Value.func (.func 23) #[] [zP cb].toArray), (7, zI 10), (8, zI 7)] _ ?_)
        refine RC.succ (fun K0_52' hK_52' => ?_)
        refine a7 (fun _ hK_53' => ?_)
        refine a6 ?_
        refine wv (OV.lss rfl rfl) ?_
        refine WL.nil ?_
        refine kg (hK_53' [(0, Value.slice (some ⟨4, 0, none⟩) 10 10), (1, Value.func (.func 23) #[] [zP cb].toArray), (7, zI 10), (8, zI 7), (9, zB true)] _ ?_)
        refine a7 (fun _ hK_54' => ?_)
        refine j2 rfl ?_
        refine b8 ?_
        refine kg (hK_54' [(0, Value.slice (some ⟨4, 0, none⟩) 10 10), (1, Value.func (.func 23) #[] [zP cb].toArray), (7, zI 10), (8, zI 7)] _ ?_)
        refine a7 (fun _ hK_55' => ?_)
        refine d7 ?_
        refine a7 (fun _ hK_56' => ?_)
        refine a6 ?_
        refine wm ?_
        refine wA ?_
        refine WL.nil ?_
        refine kg (hK_56' [(0, Value.slice (some ⟨4, 0, none⟩) 10 10), (1, Value.func (.func 23) #[] [zP cb].toArray), (5, zI 7), (7, zI 10), (8, zI 7)] _ ?_)
        refine a7 (fun _ hK_57' => ?_)
        refine a6 ?_
        refine wm ?_
        refine wm ?_
        refine wm ?_
        refine wv (OV.indexSl rfl rfl s6 (by decide) rfl) ?_
        refine wv (OV.loadM (vs := [st ([99, 114, 101, 97, 116, 101] : List UInt8), st ([108, 118] : List UInt8), st ([98, 111] : List UInt8)]) rfl (At.ro 1 rfl) rfl f0) ?_
        refine WL.enter (A := []) (EN.value rfl q8 rfl) rfl (o8 ([99, 114, 101, 97, 116, 101] : List UInt8) ([108, 118] : List UInt8) ([98, 111] : List UInt8) nm cb) rfl ⟨.inr (List.mem_of_getElem? (i := 0) rfl), trivial⟩ rfl rfl ?_
        refine WL.nil ?_
        refine kg (hK_57' [(0, Value.slice (some ⟨4, 0, none⟩) 10 10), (1, Value.func (.func 23) #[] [zP cb].toArray), (5, zI 7), (7, zI 10), (8, zI 7), (16, zB (decide (([99, 114, 101, 97, 116, 101] : List UInt8) = nm)))] _ ?_)
        refine d4 (b := decide (([99, 114, 101, 97, 116, 101] : List UInt8) = nm)) rfl (fun hb => ?_) (fun hb => ?_)
        ·replace h := k9 h hb
         refine a7 (fun _ hK_58' => ?_)
         refine a6 ?_
         refine wm ?_
         refine wA ?_
         refine WL.nil ?_
         refine kg (hK_58' [(4, zI 7)] _ ?_)
         refine e7 ?_
         exact hE.ret [] rfl rfl (.inl ⟨_, h, rfl⟩) (j6.of1 rfl (RV.tmp rfl))
        ·replace h := l6 h hb
         refine b8 ?_
         refine kg (hK_55' [(0, Value.slice (some ⟨4, 0, none⟩) 10 10), (1, Value.func (.func 23) #[] [zP cb].toArray), (7, zI 10), (8, zI 7)] _ ?_)
         refine a6 ?_
         refine wv (OV.add rfl rfl ⟨by decide, by decide⟩) ?_
         refine wm ?_
         refine WL.nil ?_
         refine kg (hK_52' [(0, Value.slice (some ⟨4, 0, none⟩) 10 10), (1, Value.func (.func 23) #[] [zP cb].toArray), (7, zI 10), (8, zI 8)] _ ?_)
         refine RC.succ (fun K0_59' hK_59' => ?_)
         refine a7 (fun _ hK_60' => ?_)
         refine a6 ?_
         refine wv (OV.lss rfl rfl) ?_
         refine WL.nil ?_
         refine kg (hK_60' [(0, Value.slice (some ⟨4, 0, none⟩) 10 10), (1, Value.func (.func 23) #[] [zP cb].toArray), (7, zI 10), (8, zI 8), (9, zB true)] _ ?_)
         refine a7 (fun _ hK_61' => ?_)
         refine j2 rfl ?_
         refine b8 ?_
         refine kg (hK_61' [(0, Value.slice (some ⟨4, 0, none⟩) 10 10), (1, Value.func (.func 23) #[] [zP cb].toArray), (7, zI 10), (8, zI 8)] _ ?_)
         refine a7 (fun _ hK_62' => ?_)
         refine d7 ?_
         refine a7 (fun _ hK_63' => ?_)
         refine a6 ?_
         refine wm ?_
         refine wA ?_
         refine WL.nil ?_
         refine kg (hK_63' [(0, Value.slice (some ⟨4, 0, none⟩) 10 10), (1, Value.func (.func 23) #[] [zP cb].toArray), (5, zI 8), (7, zI 10), (8, zI 8)] _ ?_)
         refine a7 (fun _ hK_64' => ?_)
         refine a6 ?_
         refine wm ?_
         refine wm ?_
         refine wm ?_
         refine wv (OV.indexSl rfl rfl s6 (by decide) rfl) ?_
         refine wv (OV.loadM (vs := [st ([112, 117, 116] : List UInt8), st ([108, 118, 115] : List UInt8), st ([98, 111] : List UInt8)]) rfl (At.ro 1 rfl) rfl f0) ?_
         refine WL.enter (A := []) (EN.value rfl q8 rfl) rfl (o8 ([112, 117, 116] : List UInt8) ([108, 118, 115] : List UInt8) ([98, 111] : List UInt8) nm cb) rfl ⟨.inr (List.mem_of_getElem? (i := 0) rfl), trivial⟩ rfl rfl ?_
         refine WL.nil ?_
         refine kg (hK_64' [(0, Value.slice (some ⟨4, 0, none⟩) 10 10), (1, Value.func (.func 23) #[] [zP cb].toArray), (5, zI 8), (7, zI 10), (8, zI 8), (16, zB (decide (([112, 117, 116] : List UInt8) = nm)))] _ ?_)
         refine d4 (b := decide (([112, 117, 116] : List UInt8) = nm)) rfl (fun hb => ?_) (fun hb => ?_)
         ·replace h := k9 h hb
          refine a7 (fun _ hK_65' => ?_)
          refine a6 ?_
          refine wm ?_
          refine wA ?_
          refine WL.nil ?_
          refine kg (hK_65' [(4, zI 8)] _ ?_)
          refine e7 ?_
          exact hE.ret [] rfl rfl (.inl ⟨_, h, rfl⟩) (j6.of1 rfl (RV.tmp rfl))
         ·replace h := l6 h hb
          refine b8 ?_
          refine kg (hK_62' [(0, Value.slice (some ⟨4, 0, none⟩) 10 10), (1, Value.func (.func 23) #[] [zP cb].toArray), (7, zI 10), (8, zI 8)] _ ?_)
          refine a6 ?_
          refine wv (OV.add rfl rfl ⟨by decide, by decide⟩) ?_
          refine wm ?_
          refine WL.nil ?_
          refine kg (hK_59' [(0, Value.slice (some ⟨4, 0, none⟩) 10 10), (1, Value.func (.func 23) #[] [zP cb].toArray), (7, zI 10), (8, zI 9)] _ ?_)
          refine RC.succ (fun K0_66' hK_66' => ?_)
          refine a7 (fun _ hK_67' => ?_)
          refine a6 ?_
          refine wv (OV.lss rfl rfl) ?_
          refine WL.nil ?_
          refine kg (hK_67' [(0, Value.slice (some ⟨4, 0, none⟩) 10 10), (1, Value.func (.func 23) #[] [zP cb].toArray), (7, zI 10), (8, zI 9), (9, zB true)] _ ?_)
          refine a7 (fun _ hK_68' => ?_)
          refine j2 rfl ?_
          refine b8 ?_
          refine kg (hK_68' [(0, Value.slice (some ⟨4, 0, none⟩) 10 10), (1, Value.func (.func 23) #[] [zP cb].toArray), (7, zI 10), (8, zI 9)] _ ?_)
          refine a7 (fun _ hK_69' => ?_)
          refine d7 ?_
          refine a7 (fun _ hK_70' => ?_)
          refine a6 ?_
          refine wm ?_
          refine wA ?_
          refine WL.nil ?_
          refine kg (hK_70' [(0, Value.slice (some ⟨4, 0, none⟩) 10 10), (1, Value.func (.func 23) #[] [zP cb].toArray), (5, zI 9), (7, zI 10), (8, zI 9)] _ ?_)
          refine a7 (fun _ hK_71' => ?_)
          refine a6 ?_
          refine wm ?_
          refine wm ?_
          refine wm ?_
          refine wv (OV.indexSl rfl rfl s6 (by decide) rfl) ?_
          refine wv (OV.loadM (vs := [st ([101, 100, 105, 116] : List UInt8), st ([108, 115, 97, 100, 116] : List UInt8), st ([98, 111] : List UInt8)]) rfl (At.ro 1 rfl) rfl f0) ?_
          refine WL.enter (A := []) (EN.value rfl q8 rfl) rfl (o8 ([101, 100, 105, 116] : List UInt8) ([108, 115, 97, 100, 116] : List UInt8) ([98, 111] : List UInt8) nm cb) rfl ⟨.inr (List.mem_of_getElem? (i := 0) rfl), trivial⟩ rfl rfl ?_
          refine WL.nil ?_
          refine kg (hK_71' [(0, Value.slice (some ⟨4, 0, none⟩) 10 10), (1, Value.func (.func 23) #[] [zP cb].toArray), (5, zI 9), (7, zI 10), (8, zI 9), (16, zB (decide (([101, 100, 105, 116] : List UInt8) = nm)))] _ ?_)
          refine d4 (b := decide (([101, 100, 105, 116] : List UInt8) = nm)) rfl (fun hb => ?_) (fun hb => ?_)
          ·replace h := k9 h hb
           refine a7 (fun _ hK_72' => ?_)
           refine a6 ?_
           refine wm ?_
           refine wA ?_
           refine WL.nil ?_
           refine kg (hK_72' [(4, zI 9)] _ ?_)
           refine e7 ?_
           exact hE.ret [] rfl rfl (.inl ⟨_, h, rfl⟩) (j6.of1 rfl (RV.tmp rfl))
          ·replace h := l6 h hb
           refine b8 ?_
           refine kg (hK_69' [(0, Value.slice (some ⟨4, 0, none⟩) 10 10), (1, Value.func (.func 23) #[] [zP cb].toArray), (7, zI 10), (8, zI 9)] _ ?_)
           refine a6 ?_
           refine wv (OV.add rfl rfl ⟨by decide, by decide⟩) ?_
           refine wm ?_
           refine WL.nil ?_
           refine kg (hK_66' [(0, Value.slice (some ⟨4, 0, none⟩) 10 10), (1, Value.func (.func 23) #[] [zP cb].toArray), (7, zI 10), (8, zI 10)] _ ?_)
           refine RC.succ (fun K0_73' hK_73' => ?_)
           refine a7 (fun _ hK_74' => ?_)
           refine a6 ?_
           refine wv (OV.lss rfl rfl) ?_
           refine WL.nil ?_
           refine kg (hK_74' [(0, Value.slice (some ⟨4, 0, none⟩) 10 10), (1, Value.func (.func 23) #[] [zP cb].toArray), (7, zI 10), (8, zI 10), (9, zB false)] _ ?_)
           refine a7 (fun _ hK_75' => ?_)
           refine j1 rfl ?_
           refine u7 ?_
           refine KX.go (hK_1' [] _ ?_) trivial
           refine a7 (fun _ hK_76' => ?_)
           refine a6 ?_
           refine wA ?_
           refine WL.nil ?_
           refine kg (hK_76' [(4, zI (-1))] _ ?_)
           refine e7 ?_
           exact hE.ret [] rfl rfl (.inl ⟨_, h, rfl⟩) (j6.of1 rfl (RV.tmp rfl))
def y6 (nm : Bs) : Int := if decide (([99, 104, 101, 99, 107] : List UInt8) = nm) = true then 0 else if decide (([99, 111, 100, 101] : List UInt8) = nm) = true then 1 else if decide (([119, 111, 114, 100, 115] : List UInt8) = nm) = true then 2 else if decide (([103, 101, 116] : List UInt8) = nm) = true then 3 else if decide (([99, 97, 110, 111, 110] : List UInt8) = nm) = true then 4 else if decide (([119, 104, 101, 114, 101] : List UInt8) = nm) = true then 5 else if decide (([115, 116, 114, 101, 97, 109] : List UInt8) = nm) = true then 6 else if decide (([99, 114, 101, 97, 116, 101] : List UInt8) = nm) = true then 7 else if decide (([112, 117, 116] : List UInt8) = nm) = true then 8 else if decide (([101, 100, 105, 116] : List UInt8) = nm) = true then 9 else (-1)
theorem t6 (te : TypeId) (fre : Nat × Nat) (nm : Bs) (cb : Nat) {k : Int} (hk : y6 nm = k) : i7 Tryd.prog 22 [.slice (some ⟨4, 0, none⟩) 10 10, .func (.func 23) #[] [.pointer (some ⟨cb, 0, none⟩)].toArray] ((cb, .cells [st nm].toArray 9 (0, 0)) :: adn te fre) [] (Ret (.int .i64 k) []) := by
 refine i7.one (e := fun v => .int .i64 v) (am6 cb te fre nm (fun v => v = k) ?_)
 unfold aic
 rw [← hk]
 unfold y6
 (repeat' split) <;> simp_all
def ahg (name : List UInt8) (K : (List UInt8) → (List UInt8) → (List UInt8) → Bool → Prop) : Prop :=
 (y6 name = 0) ∧
 K ([99, 104, 101, 99, 107] : List UInt8) ([108] : List UInt8) ([98] : List UInt8) true
theorem ak4 (te : TypeId) (fre : Nat × Nat) (name : List UInt8) (K : (List UInt8) → (List UInt8) → (List UInt8) → Bool → Prop) (h : ahg name K) :
  i7 Tryd.prog 13 [st name] [(4, .cells [st ([99, 104, 101, 99, 107] : List UInt8), st ([108] : List UInt8), st ([98] : List UInt8), st ([99, 111, 100, 101] : List UInt8), st ([108] : List UInt8), st ([98] : List UInt8), st ([119, 111, 114, 100, 115] : List UInt8), st ([108] : List UInt8), st ([98, 110] : List UInt8), st ([103, 101, 116] : List UInt8), st ([108, 115] : List UInt8), st ([98, 111] : List UInt8), st ([99, 97, 110, 111, 110] : List UInt8), st ([108, 115] : List UInt8), st ([98, 111] : List UInt8), st ([119, 104, 101, 114, 101] : List UInt8), st ([108, 115] : List UInt8), st ([98] : List UInt8), st ([115, 116, 114, 101, 97, 109] : List UInt8), st ([108, 115] : List UInt8), st ([98, 99] : List UInt8), st ([99, 114, 101, 97, 116, 101] : List UInt8), st ([108, 118] : List UInt8), st ([98, 111] : List UInt8), st ([112, 117, 116] : List UInt8), st ([108, 118, 115] : List UInt8), st ([98, 111] : List UInt8), st ([101, 100, 105, 116] : List UInt8), st ([108, 115, 97, 100, 116] : List UInt8), st ([98, 111] : List UInt8)].toArray te fre)] [] (fun o => (∃ (v_0 : List UInt8) (v_1 : List UInt8) (v_2 : List UInt8) (v_1' : Bool), K v_0 v_1 v_2 v_1' ∧ o = .ret (Value.tuple #[Value.agg [st v_0, st v_1, st v_2].toArray, zB v_1']) []) ∨ (False)) := by
 unfold ahg at h
 refine d8 (n := 14) (L0 := [(0, st name)]) Tryd.func13 rfl rfl rfl rfl (fun w0 M Q hE => ?_)
 refine a7 (fun _ hK => ?_)
 refine a6 ?_
 refine WL.make (MV.box (cs := [st name]) rfl rfl) rfl rfl rfl (fun b => ?_)
 refine WL.make (MV.alloc n0) rfl rfl rfl (fun b_1' => ?_)
 refine wA ?_
 refine WL.nil ?_
 refine kg (hK [(1, zP b), (2, zP b_1')] _ ?_)
 refine a7 (fun _ hK_1' => ?_)
 refine a6 ?_
 refine wv (OV.sliceArr rfl k7 (by decide)) ?_
 refine wv (OV.makeFunc rfl) ?_
 obtain ⟨o, h⟩ := h
 refine WL.call (A := []) p9 rfl (t6 te fre name b o) rfl ⟨.inl ⟨1, rfl⟩, ⟨.inr (List.mem_of_getElem? (i := 0) rfl), trivial⟩⟩ rfl rfl ?_
 refine wA ?_
 refine WL.nil ?_
 refine kg (hK_1' [(2, zP b_1'), (4, zI 0)] _ ?_)
 refine a7 (fun _ hK_2' => ?_)
 refine a7 (fun _ hK_3' => ?_)
 refine a6 ?_
 refine wm ?_
 refine wv (OV.lss rfl rfl) ?_
 refine WL.nil ?_
 refine kg (hK_3' [(2, zP b_1'), (4, zI 0), (9, zB false)] _ ?_)
 refine j1 rfl ?_
 refine b8 ?_
 refine kg (hK_2' [(2, zP b_1'), (4, zI 0)] _ ?_)
 refine a7 (fun _ hK_4' => ?_)
 refine a6 ?_
 refine wm ?_
 refine wv (OV.indexAddr rfl rfl k7 (by decide) rfl) ?_
 refine wv (OV.loadM (vs := [st ([99, 104, 101, 99, 107] : List UInt8), st ([108] : List UInt8), st ([98] : List UInt8)]) rfl (At.ro 0 rfl) rfl f0) ?_
 refine WL.storeW (vs := [st ([99, 104, 101, 99, 107] : List UInt8), st ([108] : List UInt8), st ([98] : List UInt8)]) 0 rfl rfl rfl rfl rfl m7 rfl rfl rfl ?_
 refine wA ?_
 refine WL.nil ?_
 refine kg (hK_4' [(2, zP b_1'), (3, zB true)] _ ?_)
 refine e7 ?_
 exact hE.ret [] rfl rfl (.inl ⟨_, _, _, _, h, rfl⟩) (j6.of2 rfl (RV.row rfl (At.own 0 rfl) f0) (RV.tmp rfl))
def agq (name : List UInt8) (K : (List UInt8) → (List UInt8) → (List UInt8) → Bool → Prop) : Prop :=
 (y6 name = 1) ∧
 K ([99, 111, 100, 101] : List UInt8) ([108] : List UInt8) ([98] : List UInt8) true
theorem akx (te : TypeId) (fre : Nat × Nat) (name : List UInt8) (K : (List UInt8) → (List UInt8) → (List UInt8) → Bool → Prop) (h : agq name K) :
  i7 Tryd.prog 13 [st name] [(4, .cells [st ([99, 104, 101, 99, 107] : List UInt8), st ([108] : List UInt8), st ([98] : List UInt8), st ([99, 111, 100, 101] : List UInt8), st ([108] : List UInt8), st ([98] : List UInt8), st ([119, 111, 114, 100, 115] : List UInt8), st ([108] : List UInt8), st ([98, 110] : List UInt8), st ([103, 101, 116] : List UInt8), st ([108, 115] : List UInt8), st ([98, 111] : List UInt8), st ([99, 97, 110, 111, 110] : List UInt8), st ([108, 115] : List UInt8), st ([98, 111] : List UInt8), st ([119, 104, 101, 114, 101] : List UInt8), st ([108, 115] : List UInt8), st ([98] : List UInt8), st ([115, 116, 114, 101, 97, 109] : List UInt8), st ([108, 115] : List UInt8), st ([98, 99] : List UInt8), st ([99, 114, 101, 97, 116, 101] : List UInt8), st ([108, 118] : List UInt8), st ([98, 111] : List UInt8), st ([112, 117, 116] : List UInt8), st ([108, 118, 115] : List UInt8), st ([98, 111] : List UInt8), st ([101, 100, 105, 116] : List UInt8), st ([108, 115, 97, 100, 116] : List UInt8), st ([98, 111] : List UInt8)].toArray te fre)] [] (fun o => (∃ (v_0 : List UInt8) (v_1 : List UInt8) (v_2 : List UInt8) (v_1' : Bool), K v_0 v_1 v_2 v_1' ∧ o = .ret (Value.tuple #[Value.agg [st v_0, st v_1, st v_2].toArray, zB v_1']) []) ∨ (False)) := by
 unfold agq at h
 refine d8 (n := 14) (L0 := [(0, st name)]) Tryd.func13 rfl rfl rfl rfl (fun w0 M Q hE => ?_)
 refine a7 (fun _ hK => ?_)
 refine a6 ?_
 refine WL.make (MV.box (cs := [st name]) rfl rfl) rfl rfl rfl (fun b => ?_)
 refine WL.make (MV.alloc n0) rfl rfl rfl (fun b_1' => ?_)
 refine wA ?_
 refine WL.nil ?_
 refine kg (hK [(1, zP b), (2, zP b_1')] _ ?_)
 refine a7 (fun _ hK_1' => ?_)
 refine a6 ?_
 refine wv (OV.sliceArr rfl k7 (by decide)) ?_
 refine wv (OV.makeFunc rfl) ?_
 obtain ⟨o, h⟩ := h
 refine WL.call (A := []) p9 rfl (t6 te fre name b o) rfl ⟨.inl ⟨1, rfl⟩, ⟨.inr (List.mem_of_getElem? (i := 0) rfl), trivial⟩⟩ rfl rfl ?_
 refine wA ?_
 refine WL.nil ?_
 refine kg (hK_1' [(2, zP b_1'), (4, zI 1)] _ ?_)
 refine a7 (fun _ hK_2' => ?_)
 refine a7 (fun _ hK_3' => ?_)
 refine a6 ?_
 refine wm ?_
 refine wv (OV.lss rfl rfl) ?_
 refine WL.nil ?_
 refine kg (hK_3' [(2, zP b_1'), (4, zI 1), (9, zB false)] _ ?_)
 refine j1 rfl ?_
 refine b8 ?_
 refine kg (hK_2' [(2, zP b_1'), (4, zI 1)] _ ?_)
 refine a7 (fun _ hK_4' => ?_)
 refine a6 ?_
 refine wm ?_
 refine wv (OV.indexAddr rfl rfl k7 (by decide) rfl) ?_
 refine wv (OV.loadM (vs := [st ([99, 111, 100, 101] : List UInt8), st ([108] : List UInt8), st ([98] : List UInt8)]) rfl (At.ro 0 rfl) rfl f0) ?_
 refine WL.storeW (vs := [st ([99, 111, 100, 101] : List UInt8), st ([108] : List UInt8), st ([98] : List UInt8)]) 0 rfl rfl rfl rfl rfl m7 rfl rfl rfl ?_
 refine wA ?_
 refine WL.nil ?_
 refine kg (hK_4' [(2, zP b_1'), (3, zB true)] _ ?_)
 refine e7 ?_
 exact hE.ret [] rfl rfl (.inl ⟨_, _, _, _, h, rfl⟩) (j6.of2 rfl (RV.row rfl (At.own 0 rfl) f0) (RV.tmp rfl))
def ag9 (name : List UInt8) (K : (List UInt8) → (List UInt8) → (List UInt8) → Bool → Prop) : Prop :=
 (y6 name = 2) ∧
 K ([119, 111, 114, 100, 115] : List UInt8) ([108] : List UInt8) ([98, 110] : List UInt8) true
theorem ak9 (te : TypeId) (fre : Nat × Nat) (name : List UInt8) (K : (List UInt8) → (List UInt8) → (List UInt8) → Bool → Prop) (h : ag9 name K) :
  i7 Tryd.prog 13 [st name] [(4, .cells [st ([99, 104, 101, 99, 107] : List UInt8), st ([108] : List UInt8), st ([98] : List UInt8), st ([99, 111, 100, 101] : List UInt8), st ([108] : List UInt8), st ([98] : List UInt8), st ([119, 111, 114, 100, 115] : List UInt8), st ([108] : List UInt8), st ([98, 110] : List UInt8), st ([103, 101, 116] : List UInt8), st ([108, 115] : List UInt8), st ([98, 111] : List UInt8), st ([99, 97, 110, 111, 110] : List UInt8), st ([108, 115] : List UInt8), st ([98, 111] : List UInt8), st ([119, 104, 101, 114, 101] : List UInt8), st ([108, 115] : List UInt8), st ([98] : List UInt8), st ([115, 116, 114, 101, 97, 109] : List UInt8), st ([108, 115] : List UInt8), st ([98, 99] : List UInt8), st ([99, 114, 101, 97, 116, 101] : List UInt8), st ([108, 118] : List UInt8), st ([98, 111] : List UInt8), st ([112, 117, 116] : List UInt8), st ([108, 118, 115] : List UInt8), st ([98, 111] : List UInt8), st ([101, 100, 105, 116] : List UInt8), st ([108, 115, 97, 100, 116] : List UInt8), st ([98, 111] : List UInt8)].toArray te fre)] [] (fun o => (∃ (v_0 : List UInt8) (v_1 : List UInt8) (v_2 : List UInt8) (v_1' : Bool), K v_0 v_1 v_2 v_1' ∧ o = .ret (Value.tuple #[Value.agg [st v_0, st v_1, st v_2].toArray, zB v_1']) []) ∨ (False)) := by
 unfold ag9 at h
 refine d8 (n := 14) (L0 := [(0, st name)]) Tryd.func13 rfl rfl rfl rfl (fun w0 M Q hE => ?_)
 refine a7 (fun _ hK => ?_)
 refine a6 ?_
 refine WL.make (MV.box (cs := [st name]) rfl rfl) rfl rfl rfl (fun b => ?_)
 refine WL.make (MV.alloc n0) rfl rfl rfl (fun b_1' => ?_)
 refine wA ?_
 refine WL.nil ?_
 refine kg (hK [(1, zP b), (2, zP b_1')] _ ?_)
 refine a7 (fun _ hK_1' => ?_)
 refine a6 ?_
 refine wv (OV.sliceArr rfl k7 (by decide)) ?_
 refine wv (OV.makeFunc rfl) ?_
 obtain ⟨o, h⟩ := h
 refine WL.call (A := []) p9 rfl (t6 te fre name b o) rfl ⟨.inl ⟨1, rfl⟩, ⟨.inr (List.mem_of_getElem? (i := 0) rfl), trivial⟩⟩ rfl rfl ?_
 refine wA ?_
 refine WL.nil ?_
 refine kg (hK_1' [(2, zP b_1'), (4, zI 2)] _ ?_)
 refine a7 (fun _ hK_2' => ?_)
 refine a7 (fun _ hK_3' => ?_)
 refine a6 ?_
 refine wm ?_
 refine wv (OV.lss rfl rfl) ?_
 refine WL.nil ?_
 refine kg (hK_3' [(2, zP b_1'), (4, zI 2), (9, zB false)] _ ?_)
 refine j1 rfl ?_
 refine b8 ?_
 refine kg (hK_2' [(2, zP b_1'), (4, zI 2)] _ ?_)
 refine a7 (fun _ hK_4' => ?_)
 refine a6 ?_
 refine wm ?_
 refine wv (OV.indexAddr rfl rfl k7 (by decide) rfl) ?_
 refine wv (OV.loadM (vs := [st ([119, 111, 114, 100, 115] : List UInt8), st ([108] : List UInt8), st ([98, 110] : List UInt8)]) rfl (At.ro 0 rfl) rfl f0) ?_
 refine WL.storeW (vs := [st ([119, 111, 114, 100, 115] : List UInt8), st ([108] : List UInt8), st ([98, 110] : List UInt8)]) 0 rfl rfl rfl rfl rfl m7 rfl rfl rfl ?_
 refine wA ?_
 refine WL.nil ?_
 refine kg (hK_4' [(2, zP b_1'), (3, zB true)] _ ?_)
 refine e7 ?_
 exact hE.ret [] rfl rfl (.inl ⟨_, _, _, _, h, rfl⟩) (j6.of2 rfl (RV.row rfl (At.own 0 rfl) f0) (RV.tmp rfl))
def ags (name : List UInt8) (K : (List UInt8) → (List UInt8) → (List UInt8) → Bool → Prop) : Prop :=
 (y6 name = 3) ∧
 K ([103, 101, 116] : List UInt8) ([108, 115] : List UInt8) ([98, 111] : List UInt8) true
theorem alk (te : TypeId) (fre : Nat × Nat) (name : List UInt8) (K : (List UInt8) → (List UInt8) → (List UInt8) → Bool → Prop) (h : ags name K) :
  i7 Tryd.prog 13 [st name] [(4, .cells [st ([99, 104, 101, 99, 107] : List UInt8), st ([108] : List UInt8), st ([98] : List UInt8), st ([99, 111, 100, 101] : List UInt8), st ([108] : List UInt8), st ([98] : List UInt8), st ([119, 111, 114, 100, 115] : List UInt8), st ([108] : List UInt8), st ([98, 110] : List UInt8), st ([103, 101, 116] : List UInt8), st ([108, 115] : List UInt8), st ([98, 111] : List UInt8), st ([99, 97, 110, 111, 110] : List UInt8), st ([108, 115] : List UInt8), st ([98, 111] : List UInt8), st ([119, 104, 101, 114, 101] : List UInt8), st ([108, 115] : List UInt8), st ([98] : List UInt8), st ([115, 116, 114, 101, 97, 109] : List UInt8), st ([108, 115] : List UInt8), st ([98, 99] : List UInt8), st ([99, 114, 101, 97, 116, 101] : List UInt8), st ([108, 118] : List UInt8), st ([98, 111] : List UInt8), st ([112, 117, 116] : List UInt8), st ([108, 118, 115] : List UInt8), st ([98, 111] : List UInt8), st ([101, 100, 105, 116] : List UInt8), st ([108, 115, 97, 100, 116] : List UInt8), st ([98, 111] : List UInt8)].toArray te fre)] [] (fun o => (∃ (v_0 : List UInt8) (v_1 : List UInt8) (v_2 : List UInt8) (v_1' : Bool), K v_0 v_1 v_2 v_1' ∧ o = .ret (Value.tuple #[Value.agg [st v_0, st v_1, st v_2].toArray, zB v_1']) []) ∨ (False)) := by
 unfold ags at h
 refine d8 (n := 14) (L0 := [(0, st name)]) Tryd.func13 rfl rfl rfl rfl (fun w0 M Q hE => ?_)
 refine a7 (fun _ hK => ?_)
 refine a6 ?_
 refine WL.make (MV.box (cs := [st name]) rfl rfl) rfl rfl rfl (fun b => ?_)
 refine WL.make (MV.alloc n0) rfl rfl rfl (fun b_1' => ?_)
 refine wA ?_
 refine WL.nil ?_
 refine kg (hK [(1, zP b), (2, zP b_1')] _ ?_)
 refine a7 (fun _ hK_1' => ?_)
 refine a6 ?_
 refine wv (OV.sliceArr rfl k7 (by decide)) ?_
 refine wv (OV.makeFunc rfl) ?_
 obtain ⟨o, h⟩ := h
 refine WL.call (A := []) p9 rfl (t6 te fre name b o) rfl ⟨.inl ⟨1, rfl⟩, ⟨.inr (List.mem_of_getElem? (i := 0) rfl), trivial⟩⟩ rfl rfl ?_
 refine wA ?_
 refine WL.nil ?_
 refine kg (hK_1' [(2, zP b_1'), (4, zI 3)] _ ?_)
 refine a7 (fun _ hK_2' => ?_)
 refine a7 (fun _ hK_3' => ?_)
 refine a6 ?_
 refine wm ?_
 refine wv (OV.lss rfl rfl) ?_
 refine WL.nil ?_
 refine kg (hK_3' [(2, zP b_1'), (4, zI 3), (9, zB false)] _ ?_)
 refine j1 rfl ?_
 refine b8 ?_
 refine kg (hK_2' [(2, zP b_1'), (4, zI 3)] _ ?_)
 refine a7 (fun _ hK_4' => ?_)
 refine a6 ?_
 refine wm ?_
 refine wv (OV.indexAddr rfl rfl k7 (by decide) rfl) ?_
 refine wv (OV.loadM (vs := [st ([103, 101, 116] : List UInt8), st ([108, 115] : List UInt8), st ([98, 111] : List UInt8)]) rfl (At.ro 0 rfl) rfl f0) ?_
 refine WL.storeW (vs := [st ([103, 101, 116] : List UInt8), st ([108, 115] : List UInt8), st ([98, 111] : List UInt8)]) 0 rfl rfl rfl rfl rfl m7 rfl rfl rfl ?_
 refine wA ?_
 refine WL.nil ?_
 refine kg (hK_4' [(2, zP b_1'), (3, zB true)] _ ?_)
 refine e7 ?_
 exact hE.ret [] rfl rfl (.inl ⟨_, _, _, _, h, rfl⟩) (j6.of2 rfl (RV.row rfl (At.own 0 rfl) f0) (RV.tmp rfl))
def agj (name : List UInt8) (K : (List UInt8) → (List UInt8) → (List UInt8) → Bool → Prop) : Prop :=
 (y6 name = 4) ∧
 K ([99, 97, 110, 111, 110] : List UInt8) ([108, 115] : List UInt8) ([98, 111] : List UInt8) true
theorem aj8 (te : TypeId) (fre : Nat × Nat) (name : List UInt8) (K : (List UInt8) → (List UInt8) → (List UInt8) → Bool → Prop) (h : agj name K) :
  i7 Tryd.prog 13 [st name] [(4, .cells [st ([99, 104, 101, 99, 107] : List UInt8), st ([108] : List UInt8), st ([98] : List UInt8), st ([99, 111, 100, 101] : List UInt8), st ([108] : List UInt8), st ([98] : List UInt8), st ([119, 111, 114, 100, 115] : List UInt8), st ([108] : List UInt8), st ([98, 110] : List UInt8), st ([103, 101, 116] : List UInt8), st ([108, 115] : List UInt8), st ([98, 111] : List UInt8), st ([99, 97, 110, 111, 110] : List UInt8), st ([108, 115] : List UInt8), st ([98, 111] : List UInt8), st ([119, 104, 101, 114, 101] : List UInt8), st ([108, 115] : List UInt8), st ([98] : List UInt8), st ([115, 116, 114, 101, 97, 109] : List UInt8), st ([108, 115] : List UInt8), st ([98, 99] : List UInt8), st ([99, 114, 101, 97, 116, 101] : List UInt8), st ([108, 118] : List UInt8), st ([98, 111] : List UInt8), st ([112, 117, 116] : List UInt8), st ([108, 118, 115] : List UInt8), st ([98, 111] : List UInt8), st ([101, 100, 105, 116] : List UInt8), st ([108, 115, 97, 100, 116] : List UInt8), st ([98, 111] : List UInt8)].toArray te fre)] [] (fun o => (∃ (v_0 : List UInt8) (v_1 : List UInt8) (v_2 : List UInt8) (v_1' : Bool), K v_0 v_1 v_2 v_1' ∧ o = .ret (Value.tuple #[Value.agg [st v_0, st v_1, st v_2].toArray, zB v_1']) []) ∨ (False)) := by
 unfold agj at h
 refine d8 (n := 14) (L0 := [(0, st name)]) Tryd.func13 rfl rfl rfl rfl (fun w0 M Q hE => ?_)
 refine a7 (fun _ hK => ?_)
 refine a6 ?_
 refine WL.make (MV.box (cs := [st name]) rfl rfl) rfl rfl rfl (fun b => ?_)
 refine WL.make (MV.alloc n0) rfl rfl rfl (fun b_1' => ?_)
 refine wA ?_
 refine WL.nil ?_
 refine kg (hK [(1, zP b), (2, zP b_1')] _ ?_)
 refine a7 (fun _ hK_1' => ?_)
 refine a6 ?_
 refine wv (OV.sliceArr rfl k7 (by decide)) ?_
 refine wv (OV.makeFunc rfl) ?_
 obtain ⟨o, h⟩ := h
 refine WL.call (A := []) p9 rfl (t6 te fre name b o) rfl ⟨.inl ⟨1, rfl⟩, ⟨.inr (List.mem_of_getElem? (i := 0) rfl), trivial⟩⟩ rfl rfl ?_
 refine wA ?_
 refine WL.nil ?_
 refine kg (hK_1' [(2, zP b_1'), (4, zI 4)] _ ?_)
 refine a7 (fun _ hK_2' => ?_)
 refine a7 (fun _ hK_3' => ?_)
 refine a6 ?_
 refine wm ?_
 refine wv (OV.lss rfl rfl) ?_
 refine WL.nil ?_
 refine kg (hK_3' [(2, zP b_1'), (4, zI 4), (9, zB false)] _ ?_)
 refine j1 rfl ?_
 refine b8 ?_
 refine kg (hK_2' [(2, zP b_1'), (4, zI 4)] _ ?_)
 refine a7 (fun _ hK_4' => ?_)
 refine a6 ?_
 refine wm ?_
 refine wv (OV.indexAddr rfl rfl k7 (by decide) rfl) ?_
 refine wv (OV.loadM (vs := [st ([99, 97, 110, 111, 110] : List UInt8), st ([108, 115] : List UInt8), st ([98, 111] : List UInt8)]) rfl (At.ro 0 rfl) rfl f0) ?_
 refine WL.storeW (vs := [st ([99, 97, 110, 111, 110] : List UInt8), st ([108, 115] : List UInt8), st ([98, 111] : List UInt8)]) 0 rfl rfl rfl rfl rfl m7 rfl rfl rfl ?_
 refine wA ?_
 refine WL.nil ?_
 refine kg (hK_4' [(2, zP b_1'), (3, zB true)] _ ?_)
 refine e7 ?_
 exact hE.ret [] rfl rfl (.inl ⟨_, _, _, _, h, rfl⟩) (j6.of2 rfl (RV.row rfl (At.own 0 rfl) f0) (RV.tmp rfl))
def ahk (name : List UInt8) (K : (List UInt8) → (List UInt8) → (List UInt8) → Bool → Prop) : Prop :=
 (y6 name = 5) ∧
 K ([119, 104, 101, 114, 101] : List UInt8) ([108, 115] : List UInt8) ([98] : List UInt8) true
theorem akj (te : TypeId) (fre : Nat × Nat) (name : List UInt8) (K : (List UInt8) → (List UInt8) → (List UInt8) → Bool → Prop) (h : ahk name K) :
  i7 Tryd.prog 13 [st name] [(4, .cells [st ([99, 104, 101, 99, 107] : List UInt8), st ([108] : List UInt8), st ([98] : List UInt8), st ([99, 111, 100, 101] : List UInt8), st ([108] : List UInt8), st ([98] : List UInt8), st ([119, 111, 114, 100, 115] : List UInt8), st ([108] : List UInt8), st ([98, 110] : List UInt8), st ([103, 101, 116] : List UInt8), st ([108, 115] : List UInt8), st ([98, 111] : List UInt8), st ([99, 97, 110, 111, 110] : List UInt8), st ([108, 115] : List UInt8), st ([98, 111] : List UInt8), st ([119, 104, 101, 114, 101] : List UInt8), st ([108, 115] : List UInt8), st ([98] : List UInt8), st ([115, 116, 114, 101, 97, 109] : List UInt8), st ([108, 115] : List UInt8), st ([98, 99] : List UInt8), st ([99, 114, 101, 97, 116, 101] : List UInt8), st ([108, 118] : List UInt8), st ([98, 111] : List UInt8), st ([112, 117, 116] : List UInt8), st ([108, 118, 115] : List UInt8), st ([98, 111] : List UInt8), st ([101, 100, 105, 116] : List UInt8), st ([108, 115, 97, 100, 116] : List UInt8), st ([98, 111] : List UInt8)].toArray te fre)] [] (fun o => (∃ (v_0 : List UInt8) (v_1 : List UInt8) (v_2 : List UInt8) (v_1' : Bool), K v_0 v_1 v_2 v_1' ∧ o = .ret (Value.tuple #[Value.agg [st v_0, st v_1, st v_2].toArray, zB v_1']) []) ∨ (False)) := by
 unfold ahk at h
 refine d8 (n := 14) (L0 := [(0, st name)]) Tryd.func13 rfl rfl rfl rfl (fun w0 M Q hE => ?_)
 refine a7 (fun _ hK => ?_)
 refine a6 ?_
 refine WL.make (MV.box (cs := [st name]) rfl rfl) rfl rfl rfl (fun b => ?_)
 refine WL.make (MV.alloc n0) rfl rfl rfl (fun b_1' => ?_)
 refine wA ?_
 refine WL.nil ?_
 refine kg (hK [(1, zP b), (2, zP b_1')] _ ?_)
 refine a7 (fun _ hK_1' => ?_)
 refine a6 ?_
 refine wv (OV.sliceArr rfl k7 (by decide)) ?_
 refine wv (OV.makeFunc rfl) ?_
 obtain ⟨o, h⟩ := h
 refine WL.call (A := []) p9 rfl (t6 te fre name b o) rfl ⟨.inl ⟨1, rfl⟩, ⟨.inr (List.mem_of_getElem? (i := 0) rfl), trivial⟩⟩ rfl rfl ?_
 refine wA ?_
 refine WL.nil ?_
 refine kg (hK_1' [(2, zP b_1'), (4, zI 5)] _ ?_)
 refine a7 (fun _ hK_2' => ?_)
 refine a7 (fun _ hK_3' => ?_)
 refine a6 ?_
 refine wm ?_
 refine wv (OV.lss rfl rfl) ?_
 refine WL.nil ?_
 refine kg (hK_3' [(2, zP b_1'), (4, zI 5), (9, zB false)] _ ?_)
 refine j1 rfl ?_
 refine b8 ?_
 refine kg (hK_2' [(2, zP b_1'), (4, zI 5)] _ ?_)
 refine a7 (fun _ hK_4' => ?_)
 refine a6 ?_
 refine wm ?_
 refine wv (OV.indexAddr rfl rfl k7 (by decide) rfl) ?_
 refine wv (OV.loadM (vs := [st ([119, 104, 101, 114, 101] : List UInt8), st ([108, 115] : List UInt8), st ([98] : List UInt8)]) rfl (At.ro 0 rfl) rfl f0) ?_
 refine WL.storeW (vs := [st ([119, 104, 101, 114, 101] : List UInt8), st ([108, 115] : List UInt8), st ([98] : List UInt8)]) 0 rfl rfl rfl rfl rfl m7 rfl rfl rfl ?_
 refine wA ?_
 refine WL.nil ?_
 refine kg (hK_4' [(2, zP b_1'), (3, zB true)] _ ?_)
 refine e7 ?_
 exact hE.ret [] rfl rfl (.inl ⟨_, _, _, _, h, rfl⟩) (j6.of2 rfl (RV.row rfl (At.own 0 rfl) f0) (RV.tmp rfl))
def aho (name : List UInt8) (K : (List UInt8) → (List UInt8) → (List UInt8) → Bool → Prop) : Prop :=
 (y6 name = 6) ∧
 K ([115, 116, 114, 101, 97, 109] : List UInt8) ([108, 115] : List UInt8) ([98, 99] : List UInt8) true
theorem ale (te : TypeId) (fre : Nat × Nat) (name : List UInt8) (K : (List UInt8) → (List UInt8) → (List UInt8) → Bool → Prop) (h : aho name K) :
  i7 Tryd.prog 13 [st name] [(4, .cells [st ([99, 104, 101, 99, 107] : List UInt8), st ([108] : List UInt8), st ([98] : List UInt8), st ([99, 111, 100, 101] : List UInt8), st ([108] : List UInt8), st ([98] : List UInt8), st ([119, 111, 114, 100, 115] : List UInt8), st ([108] : List UInt8), st ([98, 110] : List UInt8), st ([103, 101, 116] : List UInt8), st ([108, 115] : List UInt8), st ([98, 111] : List UInt8), st ([99, 97, 110, 111, 110] : List UInt8), st ([108, 115] : List UInt8), st ([98, 111] : List UInt8), st ([119, 104, 101, 114, 101] : List UInt8), st ([108, 115] : List UInt8), st ([98] : List UInt8), st ([115, 116, 114, 101, 97, 109] : List UInt8), st ([108, 115] : List UInt8), st ([98, 99] : List UInt8), st ([99, 114, 101, 97, 116, 101] : List UInt8), st ([108, 118] : List UInt8), st ([98, 111] : List UInt8), st ([112, 117, 116] : List UInt8), st ([108, 118, 115] : List UInt8), st ([98, 111] : List UInt8), st ([101, 100, 105, 116] : List UInt8), st ([108, 115, 97, 100, 116] : List UInt8), st ([98, 111] : List UInt8)].toArray te fre)] [] (fun o => (∃ (v_0 : List UInt8) (v_1 : List UInt8) (v_2 : List UInt8) (v_1' : Bool), K v_0 v_1 v_2 v_1' ∧ o = .ret (Value.tuple #[Value.agg [st v_0, st v_1, st v_2].toArray, zB v_1']) []) ∨ (False)) := by
 unfold aho at h
 refine d8 (n := 14) (L0 := [(0, st name)]) Tryd.func13 rfl rfl rfl rfl (fun w0 M Q hE => ?_)
 refine a7 (fun _ hK => ?_)
 refine a6 ?_
 refine WL.make (MV.box (cs := [st name]) rfl rfl) rfl rfl rfl (fun b => ?_)
 refine WL.make (MV.alloc n0) rfl rfl rfl (fun b_1' => ?_)
 refine wA ?_
 refine WL.nil ?_
 refine kg (hK [(1, zP b), (2, zP b_1')] _ ?_)
 refine a7 (fun _ hK_1' => ?_)
 refine a6 ?_
 refine wv (OV.sliceArr rfl k7 (by decide)) ?_
 refine wv (OV.makeFunc rfl) ?_
 obtain ⟨o, h⟩ := h
 refine WL.call (A := []) p9 rfl (t6 te fre name b o) rfl ⟨.inl ⟨1, rfl⟩, ⟨.inr (List.mem_of_getElem? (i := 0) rfl), trivial⟩⟩ rfl rfl ?_
 refine wA ?_
 refine WL.nil ?_
 refine kg (hK_1' [(2, zP b_1'), (4, zI 6)] _ ?_)
 refine a7 (fun _ hK_2' => ?_)
 refine a7 (fun _ hK_3' => ?_)
 refine a6 ?_
 refine wm ?_
 refine wv (OV.lss rfl rfl) ?_
 refine WL.nil ?_
 refine kg (hK_3' [(2, zP b_1'), (4, zI 6), (9, zB false)] _ ?_)
 refine j1 rfl ?_
 refine b8 ?_
 refine kg (hK_2' [(2, zP b_1'), (4, zI 6)] _ ?_)
 refine a7 (fun _ hK_4' => ?_)
 refine a6 ?_
 refine wm ?_
 refine wv (OV.indexAddr rfl rfl k7 (by decide) rfl) ?_
 refine wv (OV.loadM (vs := [st ([115, 116, 114, 101, 97, 109] : List UInt8), st ([108, 115] : List UInt8), st ([98, 99] : List UInt8)]) rfl (At.ro 0 rfl) rfl f0) ?_
 refine WL.storeW (vs := [st ([115, 116, 114, 101, 97, 109] : List UInt8), st ([108, 115] : List UInt8), st ([98, 99] : List UInt8)]) 0 rfl rfl rfl rfl rfl m7 rfl rfl rfl ?_
 refine wA ?_
 refine WL.nil ?_
 refine kg (hK_4' [(2, zP b_1'), (3, zB true)] _ ?_)
 refine e7 ?_
 exact hE.ret [] rfl rfl (.inl ⟨_, _, _, _, h, rfl⟩) (j6.of2 rfl (RV.row rfl (At.own 0 rfl) f0) (RV.tmp rfl))
def ago (name : List UInt8) (K : (List UInt8) → (List UInt8) → (List UInt8) → Bool → Prop) : Prop :=
 (y6 name = 7) ∧
 K ([99, 114, 101, 97, 116, 101] : List UInt8) ([108, 118] : List UInt8) ([98, 111] : List UInt8) true
theorem aki (te : TypeId) (fre : Nat × Nat) (name : List UInt8) (K : (List UInt8) → (List UInt8) → (List UInt8) → Bool → Prop) (h : ago name K) :
  i7 Tryd.prog 13 [st name] [(4, .cells [st ([99, 104, 101, 99, 107] : List UInt8), st ([108] : List UInt8), st ([98] : List UInt8), st ([99, 111, 100, 101] : List UInt8), st ([108] : List UInt8), st ([98] : List UInt8), st ([119, 111, 114, 100, 115] : List UInt8), st ([108] : List UInt8), st ([98, 110] : List UInt8), st ([103, 101, 116] : List UInt8), st ([108, 115] : List UInt8), st ([98, 111] : List UInt8), st ([99, 97, 110, 111, 110] : List UInt8), st ([108, 115] : List UInt8), st ([98, 111] : List UInt8), st ([119, 104, 101, 114, 101] : List UInt8), st ([108, 115] : List UInt8), st ([98] : List UInt8), st ([115, 116, 114, 101, 97, 109] : List UInt8), st ([108, 115] : List UInt8), st ([98, 99] : List UInt8), st ([99, 114, 101, 97, 116, 101] : List UInt8), st ([108, 118] : List UInt8), st ([98, 111] : List UInt8), st ([112, 117, 116] : List UInt8), st ([108, 118, 115] : List UInt8), st ([98, 111] : List UInt8), st ([101, 100, 105, 116] : List UInt8), st ([108, 115, 97, 100, 116] : List UInt8), st ([98, 111] : List UInt8)].toArray te fre)] [] (fun o => (∃ (v_0 : List UInt8) (v_1 : List UInt8) (v_2 : List UInt8) (v_1' : Bool), K v_0 v_1 v_2 v_1' ∧ o = .ret (Value.tuple #[Value.agg [st v_0, st v_1, st v_2].toArray, zB v_1']) []) ∨ (False)) := by
 unfold ago at h
 refine d8 (n := 14) (L0 := [(0, st name)]) Tryd.func13 rfl rfl rfl rfl (fun w0 M Q hE => ?_)
 refine a7 (fun _ hK => ?_)
 refine a6 ?_
 refine WL.make (MV.box (cs := [st name]) rfl rfl) rfl rfl rfl (fun b => ?_)
 refine WL.make (MV.alloc n0) rfl rfl rfl (fun b_1' => ?_)
 refine wA ?_
 refine WL.nil ?_
 refine kg (hK [(1, zP b), (2, zP b_1')] _ ?_)
 refine a7 (fun _ hK_1' => ?_)
 refine a6 ?_
 refine wv (OV.sliceArr rfl k7 (by decide)) ?_
 refine wv (OV.makeFunc rfl) ?_
 obtain ⟨o, h⟩ := h
 refine WL.call (A := []) p9 rfl (t6 te fre name b o) rfl ⟨.inl ⟨1, rfl⟩, ⟨.inr (List.mem_of_getElem? (i := 0) rfl), trivial⟩⟩ rfl rfl ?_
 refine wA ?_
 refine WL.nil ?_
 refine kg (hK_1' [(2, zP b_1'), (4, zI 7)] _ ?_)
 refine a7 (fun _ hK_2' => ?_)
 refine a7 (fun _ hK_3' => ?_)
 refine a6 ?_
 refine wm ?_
 refine wv (OV.lss rfl rfl) ?_
 refine WL.nil ?_
 refine kg (hK_3' [(2, zP b_1'), (4, zI 7), (9, zB false)] _ ?_)
 refine j1 rfl ?_
 refine b8 ?_
 refine kg (hK_2' [(2, zP b_1'), (4, zI 7)] _ ?_)
 refine a7 (fun _ hK_4' => ?_)
 refine a6 ?_
 refine wm ?_
 refine wv (OV.indexAddr rfl rfl k7 (by decide) rfl) ?_
 refine wv (OV.loadM (vs := [st ([99, 114, 101, 97, 116, 101] : List UInt8), st ([108, 118] : List UInt8), st ([98, 111] : List UInt8)]) rfl (At.ro 0 rfl) rfl f0) ?_
 refine WL.storeW (vs := [st ([99, 114, 101, 97, 116, 101] : List UInt8), st ([108, 118] : List UInt8), st ([98, 111] : List UInt8)]) 0 rfl rfl rfl rfl rfl m7 rfl rfl rfl ?_
 refine wA ?_
 refine WL.nil ?_
 refine kg (hK_4' [(2, zP b_1'), (3, zB true)] _ ?_)
 refine e7 ?_
 exact hE.ret [] rfl rfl (.inl ⟨_, _, _, _, h, rfl⟩) (j6.of2 rfl (RV.row rfl (At.own 0 rfl) f0) (RV.tmp rfl))
def ahl (name : List UInt8) (K : (List UInt8) → (List UInt8) → (List UInt8) → Bool → Prop) : Prop :=
 (y6 name = 8) ∧
 K ([112, 117, 116] : List UInt8) ([108, 118, 115] : List UInt8) ([98, 111] : List UInt8) true
theorem ajy (te : TypeId) (fre : Nat × Nat) (name : List UInt8) (K : (List UInt8) → (List UInt8) → (List UInt8) → Bool → Prop) (h : ahl name K) :
  i7 Tryd.prog 13 [st name] [(4, .cells [st ([99, 104, 101, 99, 107] : List UInt8), st ([108] : List UInt8), st ([98] : List UInt8), st ([99, 111, 100, 101] : List UInt8), st ([108] : List UInt8), st ([98] : List UInt8), st ([119, 111, 114, 100, 115] : List UInt8), st ([108] : List UInt8), st ([98, 110] : List UInt8), st ([103, 101, 116] : List UInt8), st ([108, 115] : List UInt8), st ([98, 111] : List UInt8), st ([99, 97, 110, 111, 110] : List UInt8), st ([108, 115] : List UInt8), st ([98, 111] : List UInt8), st ([119, 104, 101, 114, 101] : List UInt8), st ([108, 115] : List UInt8), st ([98] : List UInt8), st ([115, 116, 114, 101, 97, 109] : List UInt8), st ([108, 115] : List UInt8), st ([98, 99] : List UInt8), st ([99, 114, 101, 97, 116, 101] : List UInt8), st ([108, 118] : List UInt8), st ([98, 111] : List UInt8), st ([112, 117, 116] : List UInt8), st ([108, 118, 115] : List UInt8), st ([98, 111] : List UInt8), st ([101, 100, 105, 116] : List UInt8), st ([108, 115, 97, 100, 116] : List UInt8), st ([98, 111] : List UInt8)].toArray te fre)] [] (fun o => (∃ (v_0 : List UInt8) (v_1 : List UInt8) (v_2 : List UInt8) (v_1' : Bool), K v_0 v_1 v_2 v_1' ∧ o = .ret (Value.tuple #[Value.agg [st v_0, st v_1, st v_2].toArray, zB v_1']) []) ∨ (False)) := by
 unfold ahl at h
 refine d8 (n := 14) (L0 := [(0, st name)]) Tryd.func13 rfl rfl rfl rfl (fun w0 M Q hE => ?_)
 refine a7 (fun _ hK => ?_)
 refine a6 ?_
 refine WL.make (MV.box (cs := [st name]) rfl rfl) rfl rfl rfl (fun b => ?_)
 refine WL.make (MV.alloc n0) rfl rfl rfl (fun b_1' => ?_)
 refine wA ?_
 refine WL.nil ?_
 refine kg (hK [(1, zP b), (2, zP b_1')] _ ?_)
 refine a7 (fun _ hK_1' => ?_)
 refine a6 ?_
 refine wv (OV.sliceArr rfl k7 (by decide)) ?_
 refine wv (OV.makeFunc rfl) ?_
 obtain ⟨o, h⟩ := h
 refine WL.call (A := []) p9 rfl (t6 te fre name b o) rfl ⟨.inl ⟨1, rfl⟩, ⟨.inr (List.mem_of_getElem? (i := 0) rfl), trivial⟩⟩ rfl rfl ?_
 refine wA ?_
 refine WL.nil ?_
 refine kg (hK_1' [(2, zP b_1'), (4, zI 8)] _ ?_)
 refine a7 (fun _ hK_2' => ?_)
 refine a7 (fun _ hK_3' => ?_)
 refine a6 ?_
 refine wm ?_
 refine wv (OV.lss rfl rfl) ?_
 refine WL.nil ?_
 refine kg (hK_3' [(2, zP b_1'), (4, zI 8), (9, zB false)] _ ?_)
 refine j1 rfl ?_
 refine b8 ?_
 refine kg (hK_2' [(2, zP b_1'), (4, zI 8)] _ ?_)
 refine a7 (fun _ hK_4' => ?_)
 refine a6 ?_
 refine wm ?_
 refine wv (OV.indexAddr rfl rfl k7 (by decide) rfl) ?_
 refine wv (OV.loadM (vs := [st ([112, 117, 116] : List UInt8), st ([108, 118, 115] : List UInt8), st ([98, 111] : List UInt8)]) rfl (At.ro 0 rfl) rfl f0) ?_
 refine WL.storeW (vs := [st ([112, 117, 116] : List UInt8), st ([108, 118, 115] : List UInt8), st ([98, 111] : List UInt8)]) 0 rfl rfl rfl rfl rfl m7 rfl rfl rfl ?_
 refine wA ?_
 refine WL.nil ?_
 refine kg (hK_4' [(2, zP b_1'), (3, zB true)] _ ?_)
 refine e7 ?_
 exact hE.ret [] rfl rfl (.inl ⟨_, _, _, _, h, rfl⟩) (j6.of2 rfl (RV.row rfl (At.own 0 rfl) f0) (RV.tmp rfl))
def ag8 (name : List UInt8) (K : (List UInt8) → (List UInt8) → (List UInt8) → Bool → Prop) : Prop :=
 (y6 name = 9) ∧
 K ([101, 100, 105, 116] : List UInt8) ([108, 115, 97, 100, 116] : List UInt8) ([98, 111] : List UInt8) true
theorem ajz (te : TypeId) (fre : Nat × Nat) (name : List UInt8) (K : (List UInt8) → (List UInt8) → (List UInt8) → Bool → Prop) (h : ag8 name K) :
  i7 Tryd.prog 13 [st name] [(4, .cells [st ([99, 104, 101, 99, 107] : List UInt8), st ([108] : List UInt8), st ([98] : List UInt8), st ([99, 111, 100, 101] : List UInt8), st ([108] : List UInt8), st ([98] : List UInt8), st ([119, 111, 114, 100, 115] : List UInt8), st ([108] : List UInt8), st ([98, 110] : List UInt8), st ([103, 101, 116] : List UInt8), st ([108, 115] : List UInt8), st ([98, 111] : List UInt8), st ([99, 97, 110, 111, 110] : List UInt8), st ([108, 115] : List UInt8), st ([98, 111] : List UInt8), st ([119, 104, 101, 114, 101] : List UInt8), st ([108, 115] : List UInt8), st ([98] : List UInt8), st ([115, 116, 114, 101, 97, 109] : List UInt8), st ([108, 115] : List UInt8), st ([98, 99] : List UInt8), st ([99, 114, 101, 97, 116, 101] : List UInt8), st ([108, 118] : List UInt8), st ([98, 111] : List UInt8), st ([112, 117, 116] : List UInt8), st ([108, 118, 115] : List UInt8), st ([98, 111] : List UInt8), st ([101, 100, 105, 116] : List UInt8), st ([108, 115, 97, 100, 116] : List UInt8), st ([98, 111] : List UInt8)].toArray te fre)] [] (fun o => (∃ (v_0 : List UInt8) (v_1 : List UInt8) (v_2 : List UInt8) (v_1' : Bool), K v_0 v_1 v_2 v_1' ∧ o = .ret (Value.tuple #[Value.agg [st v_0, st v_1, st v_2].toArray, zB v_1']) []) ∨ (False)) := by
 unfold ag8 at h
 refine d8 (n := 14) (L0 := [(0, st name)]) Tryd.func13 rfl rfl rfl rfl (fun w0 M Q hE => ?_)
 refine a7 (fun _ hK => ?_)
 refine a6 ?_
 refine WL.make (MV.box (cs := [st name]) rfl rfl) rfl rfl rfl (fun b => ?_)
 refine WL.make (MV.alloc n0) rfl rfl rfl (fun b_1' => ?_)
 refine wA ?_
 refine WL.nil ?_
 refine kg (hK [(1, zP b), (2, zP b_1')] _ ?_)
 refine a7 (fun _ hK_1' => ?_)
 refine a6 ?_
 refine wv (OV.sliceArr rfl k7 (by decide)) ?_
 refine wv (OV.makeFunc rfl) ?_
 obtain ⟨o, h⟩ := h
 refine WL.call (A := []) p9 rfl (t6 te fre name b o) rfl ⟨.inl ⟨1, rfl⟩, ⟨.inr (List.mem_of_getElem? (i := 0) rfl), trivial⟩⟩ rfl rfl ?_
 refine wA ?_
 refine WL.nil ?_
 refine kg (hK_1' [(2, zP b_1'), (4, zI 9)] _ ?_)
 refine a7 (fun _ hK_2' => ?_)
 refine a7 (fun _ hK_3' => ?_)
 refine a6 ?_
 refine wm ?_
 refine wv (OV.lss rfl rfl) ?_
 refine WL.nil ?_
 refine kg (hK_3' [(2, zP b_1'), (4, zI 9), (9, zB false)] _ ?_)
 refine j1 rfl ?_
 refine b8 ?_
 refine kg (hK_2' [(2, zP b_1'), (4, zI 9)] _ ?_)
 refine a7 (fun _ hK_4' => ?_)
 refine a6 ?_
 refine wm ?_
 refine wv (OV.indexAddr rfl rfl k7 (by decide) rfl) ?_
 refine wv (OV.loadM (vs := [st ([101, 100, 105, 116] : List UInt8), st ([108, 115, 97, 100, 116] : List UInt8), st ([98, 111] : List UInt8)]) rfl (At.ro 0 rfl) rfl f0) ?_
 refine WL.storeW (vs := [st ([101, 100, 105, 116] : List UInt8), st ([108, 115, 97, 100, 116] : List UInt8), st ([98, 111] : List UInt8)]) 0 rfl rfl rfl rfl rfl m7 rfl rfl rfl ?_
 refine wA ?_
 refine WL.nil ?_
 refine kg (hK_4' [(2, zP b_1'), (3, zB true)] _ ?_)
 refine e7 ?_
 exact hE.ret [] rfl rfl (.inl ⟨_, _, _, _, h, rfl⟩) (j6.of2 rfl (RV.row rfl (At.own 0 rfl) f0) (RV.tmp rfl))
def afc (name : List UInt8) (K : (List UInt8) → (List UInt8) → (List UInt8) → Bool → Prop) : Prop :=
 (y6 name = (-1)) ∧
 K [] [] [] false
theorem ajl (te : TypeId) (fre : Nat × Nat) (name : List UInt8) (K : (List UInt8) → (List UInt8) → (List UInt8) → Bool → Prop) (h : afc name K) :
  i7 Tryd.prog 13 [st name] [(4, .cells [st ([99, 104, 101, 99, 107] : List UInt8), st ([108] : List UInt8), st ([98] : List UInt8), st ([99, 111, 100, 101] : List UInt8), st ([108] : List UInt8), st ([98] : List UInt8), st ([119, 111, 114, 100, 115] : List UInt8), st ([108] : List UInt8), st ([98, 110] : List UInt8), st ([103, 101, 116] : List UInt8), st ([108, 115] : List UInt8), st ([98, 111] : List UInt8), st ([99, 97, 110, 111, 110] : List UInt8), st ([108, 115] : List UInt8), st ([98, 111] : List UInt8), st ([119, 104, 101, 114, 101] : List UInt8), st ([108, 115] : List UInt8), st ([98] : List UInt8), st ([115, 116, 114, 101, 97, 109] : List UInt8), st ([108, 115] : List UInt8), st ([98, 99] : List UInt8), st ([99, 114, 101, 97, 116, 101] : List UInt8), st ([108, 118] : List UInt8), st ([98, 111] : List UInt8), st ([112, 117, 116] : List UInt8), st ([108, 118, 115] : List UInt8), st ([98, 111] : List UInt8), st ([101, 100, 105, 116] : List UInt8), st ([108, 115, 97, 100, 116] : List UInt8), st ([98, 111] : List UInt8)].toArray te fre)] [] (fun o => (∃ (v_0 : List UInt8) (v_1 : List UInt8) (v_2 : List UInt8) (v_1' : Bool), K v_0 v_1 v_2 v_1' ∧ o = .ret (Value.tuple #[Value.agg [st v_0, st v_1, st v_2].toArray, zB v_1']) []) ∨ (False)) := by
 unfold afc at h
 refine d8 (n := 14) (L0 := [(0, st name)]) Tryd.func13 rfl rfl rfl rfl (fun w0 M Q hE => ?_)
 refine a7 (fun _ hK => ?_)
 refine a6 ?_
 refine WL.make (MV.box (cs := [st name]) rfl rfl) rfl rfl rfl (fun b => ?_)
 refine WL.make (MV.alloc n0) rfl rfl rfl (fun b_1' => ?_)
 refine wA ?_
 refine WL.nil ?_
 refine kg (hK [(1, zP b), (2, zP b_1')] _ ?_)
 refine a7 (fun _ hK_1' => ?_)
 refine a6 ?_
 refine wv (OV.sliceArr rfl k7 (by decide)) ?_
 refine wv (OV.makeFunc rfl) ?_
 obtain ⟨o, h⟩ := h
 refine WL.call (A := []) p9 rfl (t6 te fre name b o) rfl ⟨.inl ⟨1, rfl⟩, ⟨.inr (List.mem_of_getElem? (i := 0) rfl), trivial⟩⟩ rfl rfl ?_
 refine wA ?_
 refine WL.nil ?_
 refine kg (hK_1' [(2, zP b_1'), (4, zI (-1))] _ ?_)
 refine a7 (fun _ hK_2' => ?_)
 refine a7 (fun _ hK_3' => ?_)
 refine a6 ?_
 refine wm ?_
 refine wv (OV.lss rfl rfl) ?_
 refine WL.nil ?_
 refine kg (hK_3' [(2, zP b_1'), (4, zI (-1)), (9, zB true)] _ ?_)
 refine j2 rfl ?_
 refine a7 (fun _ hK_4' => ?_)
 refine a6 ?_
 refine wv (OV.build rfl (cs := [st [], st [], st []]) rfl) ?_
 refine WL.storeW (vs := [st [], st [], st []]) 0 rfl rfl rfl rfl rfl m7 rfl rfl rfl ?_
 refine wA ?_
 refine WL.nil ?_
 refine kg (hK_4' [(2, zP b_1'), (3, zB false)] _ ?_)
 refine e7 ?_
 exact hE.ret [] rfl rfl (.inl ⟨_, _, _, _, h, rfl⟩) (j6.of2 rfl (RV.row rfl (At.own 0 rfl) f0) (RV.tmp rfl))
theorem afr (te : TypeId) (fre : Nat × Nat) (nm : Bs) : i7 Tryd.prog 13 [st nm] (adn te fre) [] (Ret (.tuple #[.agg [st (b6 nm).1, st (b6 nm).2.1, st (b6 nm).2.2].toArray, .bool (u6 nm)]) []) := by
 by_cases h0 : ([99, 104, 101, 99, 107] : List UInt8) = nm
 ·subst h0
  exact (ak4 te fre _ (fun a b c d => a = [99, 104, 101, 99, 107] ∧ b = [108] ∧ c = [98] ∧ d = true) ⟨by decide, rfl, rfl, rfl, rfl⟩).weak (by
   rintro o (⟨a, b, c, d, ⟨rfl, rfl, rfl, rfl⟩, rfl⟩ | h)
   ·rfl
   ·cases h)
 by_cases h1 : ([99, 111, 100, 101] : List UInt8) = nm
 ·subst h1
  exact (akx te fre _ (fun a b c d => a = [99, 111, 100, 101] ∧ b = [108] ∧ c = [98] ∧ d = true) ⟨by decide, rfl, rfl, rfl, rfl⟩).weak (by
   rintro o (⟨a, b, c, d, ⟨rfl, rfl, rfl, rfl⟩, rfl⟩ | h)
   ·rfl
   ·cases h)
 by_cases h2 : ([119, 111, 114, 100, 115] : List UInt8) = nm
 ·subst h2
  exact (ak9 te fre _ (fun a b c d => a = [119, 111, 114, 100, 115] ∧ b = [108] ∧ c = [98, 110] ∧ d = true) ⟨by decide, rfl, rfl, rfl, rfl⟩).weak (by
   rintro o (⟨a, b, c, d, ⟨rfl, rfl, rfl, rfl⟩, rfl⟩ | h)
   ·rfl
   ·cases h)
 by_cases h3 : ([103, 101, 116] : List UInt8) = nm
 ·subst h3
  exact (alk te fre _ (fun a b c d => a = [103, 101, 116] ∧ b = [108, 115] ∧ c = [98, 111] ∧ d = true) ⟨by decide, rfl, rfl, rfl, rfl⟩).weak (by
   rintro o (⟨a, b, c, d, ⟨rfl, rfl, rfl, rfl⟩, rfl⟩ | h)
   ·rfl
   ·cases h)
 by_cases h4 : ([99, 97, 110, 111, 110] : List UInt8) = nm
 ·subst h4
  exact (aj8 te fre _ (fun a b c d => a = [99, 97, 110, 111, 110] ∧ b = [108, 115] ∧ c = [98, 111] ∧ d = true) ⟨by decide, rfl, rfl, rfl, rfl⟩).weak (by
   rintro o (⟨a, b, c, d, ⟨rfl, rfl, rfl, rfl⟩, rfl⟩ | h)
   ·rfl
   ·cases h)
 by_cases h5 : ([119, 104, 101, 114, 101] : List UInt8) = nm
 ·subst h5
  exact (akj te fre _ (fun a b c d => a = [119, 104, 101, 114, 101] ∧ b = [108, 115] ∧ c = [98] ∧ d = true) ⟨by decide, rfl, rfl, rfl, rfl⟩).weak (by
   rintro o (⟨a, b, c, d, ⟨rfl, rfl, rfl, rfl⟩, rfl⟩ | h)
   ·rfl
   ·cases h)
 by_cases h6 : ([115, 116, 114, 101, 97, 109] : List UInt8) = nm
 ·subst h6
  exact (ale te fre _ (fun a b c d => a = [115, 116, 114, 101, 97, 109] ∧ b = [108, 115] ∧ c = [98, 99] ∧ d = true) ⟨by decide, rfl, rfl, rfl, rfl⟩).weak (by
   rintro o (⟨a, b, c, d, ⟨rfl, rfl, rfl, rfl⟩, rfl⟩ | h)
   ·rfl
   ·cases h)
 by_cases h7 : ([99, 114, 101, 97, 116, 101] : List UInt8) = nm
 ·subst h7
  exact (aki te fre _ (fun a b c d => a = [99, 114, 101, 97, 116, 101] ∧ b = [108, 118] ∧ c = [98, 111] ∧ d = true) ⟨by decide, rfl, rfl, rfl, rfl⟩).weak (by
   rintro o (⟨a, b, c, d, ⟨rfl, rfl, rfl, rfl⟩, rfl⟩ | h)
   ·rfl
   ·cases h)
 by_cases h8 : ([112, 117, 116] : List UInt8) = nm
 ·subst h8
  exact (ajy te fre _ (fun a b c d => a = [112, 117, 116] ∧ b = [108, 118, 115] ∧ c = [98, 111] ∧ d = true) ⟨by decide, rfl, rfl, rfl, rfl⟩).weak (by
   rintro o (⟨a, b, c, d, ⟨rfl, rfl, rfl, rfl⟩, rfl⟩ | h)
   ·rfl
   ·cases h)
 by_cases h9 : ([101, 100, 105, 116] : List UInt8) = nm
 ·subst h9
  exact (ajz te fre _ (fun a b c d => a = [101, 100, 105, 116] ∧ b = [108, 115, 97, 100, 116] ∧ c = [98, 111] ∧ d = true) ⟨by decide, rfl, rfl, rfl, rfl⟩).weak (by
   rintro o (⟨a, b, c, d, ⟨rfl, rfl, rfl, rfl⟩, rfl⟩ | h)
   ·rfl
   ·cases h)
 have hi : y6 nm = -1 := by
  unfold y6
  simp [h0, h1, h2, h3, h4, h5, h6, h7, h8, h9]
 have hs : shapes.find? (fun s => decide (s.1 = nm)) = none := by
  simp [shapes, h0, h1, h2, h3, h4, h5, h6, h7, h8, h9]
 have e1 : b6 nm = ([], [], []) := by unfold b6; rw [hs]; rfl
 have e2 : u6 nm = false := by unfold u6; rw [hs]; rfl
 rw [e1, e2]
 exact (ajl te fre nm (fun a b c d => a = [] ∧ b = [] ∧ c = [] ∧ d = false) ⟨hi, rfl, rfl, rfl, rfl⟩).weak (by
   rintro o (⟨a, b, c, d, ⟨rfl, rfl, rfl, rfl⟩, rfl⟩ | h)
   ·rfl
   ·cases h)
end Go.Proofs.YtgocbiiolmmonaaDoor
set_option maxRecDepth 100000
namespace Go.Proofs.YtgocbiiolmmonaaDoor
open Go Go.RowKit
theorem adr : ach Tryd.prog 97 = some (arr 256 (fun j => zB ((fun _ => false) j))) := by kernel_rfl
theorem d5 : agf Tryd.prog 9 = true := by kernel_rfl
theorem p7 : ahs Tryd.prog 97 4 256 1 = true := by kernel_rfl
theorem r7 : p8 Tryd.prog 4 1 = true := by kernel_rfl
theorem afu : RowT Tryd.prog 97 256 := ⟨by kernel_rfl, by kernel_rfl⟩
theorem ad1 : p8 Tryd.prog 97 256 = true := by kernel_rfl
theorem afe : w9 Tryd.prog 4 = true := by kernel_rfl
theorem afp : n9 Tryd.prog 56 = true := by kernel_rfl
theorem ajq : n9 Tryd.prog 43 = true := by kernel_rfl
theorem ajd : n9 Tryd.prog 45 = true := by kernel_rfl
theorem ai3 : n9 Tryd.prog 44 = true := by kernel_rfl
theorem aji : n9 Tryd.prog 31 = true := by kernel_rfl
theorem ai2 : n9 Tryd.prog 32 = true := by kernel_rfl
def adk  (K : (Nat → Bool) → Bool → Prop) : Prop :=
 K (fun j => if j = 57 then true else (fun j => if j = 56 then true else (fun j => if j = 55 then true else (fun j => if j = 54 then true else (fun j => if j = 53 then true else (fun j => if j = 52 then true else (fun j => if j = 51 then true else (fun j => if j = 50 then true else (fun j => if j = 49 then true else (fun j => if j = 48 then true else (fun _ => false) j) j) j) j) j) j) j) j) j) j) true
theorem aj6   (K : (Nat → Bool) → Bool → Prop) (h : adk  K) :
  i7 Tryd.prog 43 [st ([48, 49, 50, 51, 52, 53, 54, 55, 56, 57] : List UInt8)] [] [] (fun o => (∃ (v : Nat → Bool) (v_1' : Bool), K v v_1' ∧ o = .ret (Value.tuple #[Value.agg (arr 256 (fun j => zB (v j))).toArray, zB v_1']) []) ∨ (False)) := by
 unfold adk at h
 refine d8 (n := 21) (L0 := [(0, st ([48, 49, 50, 51, 52, 53, 54, 55, 56, 57] : List UInt8))]) Tryd.func43 rfl rfl rfl rfl (fun w0 M Q hE => ?_)
 refine a7 (fun _ hK => ?_)
 refine a6 ?_
 refine WL.make (MV.alloc adr) rfl rfl rfl (fun b => ?_)
 refine wA ?_
 refine WL.nil ?_
 refine kg (hK [(0, st ([48, 49, 50, 51, 52, 53, 54, 55, 56, 57] : List UInt8)), (2, zP b)] _ ?_)
 refine a7 (fun _ hK_1' => ?_)
 refine a7 (fun _ hK_2' => ?_)
 refine a6 ?_
 refine wA ?_
 refine WL.nil ?_
 refine kg (hK_2' [(0, st ([48, 49, 50, 51, 52, 53, 54, 55, 56, 57] : List UInt8)), (2, zP b), (4, zI 0)] _ ?_)
 refine d7 ?_
 refine abi 11 ?_
 refine RC.succ (fun K0_3' hK_3' => ?_)
 refine a7 (fun _ hK_4' => ?_)
 refine a7 (fun _ hK_5' => ?_)
 refine a6 ?_
 refine wm ?_
 refine wm ?_
 refine wv (OV.len rfl d5) ?_
 refine wv (OV.lss rfl rfl) ?_
 refine WL.nil ?_
 refine kg (hK_5' [(0, st ([48, 49, 50, 51, 52, 53, 54, 55, 56, 57] : List UInt8)), (2, zP b), (4, zI 0), (9, zB true)] _ ?_)
 refine j2 rfl ?_
 refine b8 ?_
 refine kg (hK_4' [(0, st ([48, 49, 50, 51, 52, 53, 54, 55, 56, 57] : List UInt8)), (2, zP b), (4, zI 0)] _ ?_)
 refine a7 (fun _ hK_6' => ?_)
 refine d7 ?_
 refine a7 (fun _ hK_7' => ?_)
 refine a6 ?_
 refine wm ?_
 refine wm ?_
 refine wv (OV.index rfl rfl d5 (by decide)) ?_
 refine wA ?_
 refine WL.nil ?_
 refine kg (hK_7' [(0, st ([48, 49, 50, 51, 52, 53, 54, 55, 56, 57] : List UInt8)), (2, zP b), (4, zI 0), (5, zU 48)] _ ?_)
 refine a7 (fun _ hK_8' => ?_)
 refine a7 (fun _ hK_9' => ?_)
 refine a6 ?_
 refine wm ?_
 refine wv (OV.geq rfl rfl) ?_
 refine WL.nil ?_
 refine kg (hK_9' [(0, st ([48, 49, 50, 51, 52, 53, 54, 55, 56, 57] : List UInt8)), (2, zP b), (4, zI 0), (5, zU 48), (16, zB false)] _ ?_)
 refine j1 rfl ?_
 refine b8 ?_
 refine kg (hK_8' [(0, st ([48, 49, 50, 51, 52, 53, 54, 55, 56, 57] : List UInt8)), (2, zP b), (4, zI 0), (5, zU 48)] _ ?_)
 refine a6 ?_
 refine wm ?_
 refine wv (OV.indexAddr rfl rfl p7 (by decide) rfl) ?_
 refine WL.storeA' (f' := fun j => zB (if j = 48 then true else (fun _ => false) j)) 0 rfl rfl rfl rfl r7 (by first | decide | omega) rfl rfl (fun j => by by_cases hj : j = 48 <;> simp [hj]) ?_
 refine WL.nil ?_
 refine kg (hK_6' [(0, st ([48, 49, 50, 51, 52, 53, 54, 55, 56, 57] : List UInt8)), (2, zP b), (4, zI 0)] _ ?_)
 refine a6 ?_
 refine wm ?_
 refine wv (OV.add rfl rfl ⟨by decide, by decide⟩) ?_
 refine wA ?_
 refine WL.nil ?_
 refine kg (hK_3' [(0, st ([48, 49, 50, 51, 52, 53, 54, 55, 56, 57] : List UInt8)), (2, zP b), (4, zI 1)] _ ?_)
 refine RC.succ (fun K0_10' hK_10' => ?_)
 refine a7 (fun _ hK_11' => ?_)
 refine a7 (fun _ hK_12' => ?_)
 refine a6 ?_
 refine wm ?_
 refine wm ?_
 refine wv (OV.len rfl d5) ?_
 refine wv (OV.lss rfl rfl) ?_
 refine WL.nil ?_
 refine kg (hK_12' [(0, st ([48, 49, 50, 51, 52, 53, 54, 55, 56, 57] : List UInt8)), (2, zP b), (4, zI 1), (9, zB true)] _ ?_)
 refine j2 rfl ?_
 refine b8 ?_
 refine kg (hK_11' [(0, st ([48, 49, 50, 51, 52, 53, 54, 55, 56, 57] : List UInt8)), (2, zP b), (4, zI 1)] _ ?_)
 refine a7 (fun _ hK_13' => ?_)
 refine d7 ?_
 refine a7 (fun _ hK_14' => ?_)
 refine a6 ?_
 refine wm ?_
 refine wm ?_
 refine wv (OV.index rfl rfl d5 (by decide)) ?_
 refine wA ?_
 refine WL.nil ?_
 refine kg (hK_14' [(0, st ([48, 49, 50, 51, 52, 53, 54, 55, 56, 57] : List UInt8)), (2, zP b), (4, zI 1), (5, zU 49)] _ ?_)
 refine a7 (fun _ hK_15' => ?_)
 refine a7 (fun _ hK_16' => ?_)
 refine a6 ?_
 refine wm ?_
 refine wv (OV.geq rfl rfl) ?_
 refine WL.nil ?_
 refine kg (hK_16' [(0, st ([48, 49, 50, 51, 52, 53, 54, 55, 56, 57] : List UInt8)), (2, zP b), (4, zI 1), (5, zU 49), (16, zB false)] _ ?_)
 refine j1 rfl ?_
 refine b8 ?_
 refine kg (hK_15' [(0, st ([48, 49, 50, 51, 52, 53, 54, 55, 56, 57] : List UInt8)), (2, zP b), (4, zI 1), (5, zU 49)] _ ?_)
 refine a6 ?_
 refine wm ?_
 refine wv (OV.indexAddr rfl rfl p7 (by decide) rfl) ?_
 refine WL.storeA' (f' := fun j => zB (if j = 49 then true else (fun j => if j = 48 then true else (fun _ => false) j) j)) 0 rfl rfl rfl rfl r7 (by first | decide | omega) rfl rfl (fun j => by by_cases hj : j = 49 <;> simp [hj]) ?_
 refine WL.nil ?_
 refine kg (hK_13' [(0, st ([48, 49, 50, 51, 52, 53, 54, 55, 56, 57] : List UInt8)), (2, zP b), (4, zI 1)] _ ?_)
 refine a6 ?_
 refine wm ?_
 refine wv (OV.add rfl rfl ⟨by decide, by decide⟩) ?_
 refine wA ?_
 refine WL.nil ?_
 refine kg (hK_10' [(0, st ([48, 49, 50, 51, 52, 53, 54, 55, 56, 57] : List UInt8)), (2, zP b), (4, zI 2)] _ ?_)
 refine RC.succ (fun K0_17' hK_17' => ?_)
 refine a7 (fun _ hK_18' => ?_)
 refine a7 (fun _ hK_19' => ?_)
 refine a6 ?_
 refine wm ?_
 refine wm ?_
 refine wv (OV.len rfl d5) ?_
 refine wv (OV.lss rfl rfl) ?_
 refine WL.nil ?_
 refine kg (hK_19' [(0, st ([48, 49, 50, 51, 52, 53, 54, 55, 56, 57] : List UInt8)), (2, zP b), (4, zI 2), (9, zB true)] _ ?_)
 refine j2 rfl ?_
 refine b8 ?_
 refine kg (hK_18' [(0, st ([48, 49, 50, 51, 52, 53, 54, 55, 56, 57] : List UInt8)), (2, zP b), (4, zI 2)] _ ?_)
 refine a7 (fun _ hK_20' => ?_)
 refine d7 ?_
 refine a7 (fun _ hK_21' => ?_)
 refine a6 ?_
 refine wm ?_
 refine wm ?_
 refine wv (OV.index rfl rfl d5 (by decide)) ?_
 refine wA ?_
 refine WL.nil ?_
 refine kg (hK_21' [(0, st ([48, 49, 50, 51, 52, 53, 54, 55, 56, 57] : List UInt8)), (2, zP b), (4, zI 2), (5, zU 50)] _ ?_)
 refine a7 (fun _ hK_22' => ?_)
 refine a7 (fun _ hK_23' => ?_)
 refine a6 ?_
 refine wm ?_
 refine wv (OV.geq rfl rfl) ?_
 refine WL.nil ?_
 refine kg (hK_23' [(0, st ([48, 49, 50, 51, 52, 53, 54, 55, 56, 57] : List UInt8)), (2, zP b), (4, zI 2), (5, zU 50), (16, zB false)] _ ?_)
 refine j1 rfl ?_
 refine b8 ?_
 refine kg (hK_22' [(0, st ([48, 49, 50, 51, 52, 53, 54, 55, 56, 57] : List UInt8)), (2, zP b), (4, zI 2), (5, zU 50)] _ ?_)
 refine a6 ?_
 refine wm ?_
 refine wv (OV.indexAddr rfl rfl p7 (by decide) rfl) ?_
 refine WL.storeA' (f' := fun j => zB (if j = 50 then true else (fun j => if j = 49 then true else (fun j => if j = 48 then true else (fun _ => false) j) j) j)) 0 rfl rfl rfl rfl r7 (by first | decide | omega) rfl rfl (fun j => by by_cases hj : j = 50 <;> simp [hj]) ?_
 refine WL.nil ?_
 refine kg (hK_20' [(0, st ([48, 49, 50, 51, 52, 53, 54, 55, 56, 57] : List UInt8)), (2, zP b), (4, zI 2)] _ ?_)
 refine a6 ?_
 refine wm ?_
 refine wv (OV.add rfl rfl ⟨by decide, by decide⟩) ?_
 refine wA ?_
 refine WL.nil ?_
 refine kg (hK_17' [(0, st ([48, 49, 50, 51, 52, 53, 54, 55, 56, 57] : List UInt8)), (2, zP b), (4, zI 3)] _ ?_)
 refine RC.succ (fun K0_24' hK_24' => ?_)
 refine a7 (fun _ hK_25' => ?_)
 refine a7 (fun _ hK_26' => ?_)
 refine a6 ?_
 refine wm ?_
 refine wm ?_
 refine wv (OV.len rfl d5) ?_
 refine wv (OV.lss rfl rfl) ?_
 refine WL.nil ?_
 refine kg (hK_26' [(0, st ([48, 49, 50, 51, 52, 53, 54, 55, 56, 57] : List UInt8)), (2, zP b), (4, zI 3), (9, zB true)] _ ?_)
 refine j2 rfl ?_
 refine b8 ?_
 refine kg (hK_25' [(0, st ([48, 49, 50, 51, 52, 53, 54, 55, 56, 57] : List UInt8)), (2, zP b), (4, zI 3)] _ ?_)
 refine a7 (fun _ hK_27' => ?_)
 refine d7 ?_
 refine a7 (fun _ hK_28' => ?_)
 refine a6 ?_
 refine wm ?_
 refine wm ?_
 refine wv (OV.index rfl rfl d5 (by decide)) ?_
 refine wA ?_
 refine WL.nil ?_
 refine kg (hK_28' [(0, st ([48, 49, 50, 51, 52, 53, 54, 55, 56, 57] : List UInt8)), (2, zP b), (4, zI 3), (5, zU 51)] _ ?_)
 refine a7 (fun _ hK_29' => ?_)
 refine a7 (fun _ hK_30' => ?_)
 refine a6 ?_
 refine wm ?_
 refine wv (OV.geq rfl rfl) ?_
 refine WL.nil ?_
 refine kg (hK_30' [(0, st ([48, 49, 50, 51, 52, 53, 54, 55, 56, 57] : List UInt8)), (2, zP b), (4, zI 3), (5, zU 51), (16, zB false)] _ ?_)
 refine j1 rfl ?_
 refine b8 ?_
 refine kg (hK_29' [(0, st ([48, 49, 50, 51, 52, 53, 54, 55, 56, 57] : List UInt8)), (2, zP b), (4, zI 3), (5, zU 51)] _ ?_)
 refine a6 ?_
 refine wm ?_
 refine wv (OV.indexAddr rfl rfl p7 (by decide) rfl) ?_
 refine WL.storeA' (f' := fun j => zB (if j = 51 then true else (fun j => if j = 50 then true else (fun j => if j = 49 then true else (fun j => if j = 48 then true else (fun _ => false) j) j) j) j)) 0 rfl rfl rfl rfl r7 (by first | decide | omega) rfl rfl (fun j => by by_cases hj : j = 51 <;> simp [hj]) ?_
 refine WL.nil ?_
 refine kg (hK_27' [(0, st ([48, 49, 50, 51, 52, 53, 54, 55, 56, 57] : List UInt8)), (2, zP b), (4, zI 3)] _ ?_)
 refine a6 ?_
 refine wm ?_
 refine wv (OV.add rfl rfl ⟨by decide, by decide⟩) ?_
 refine wA ?_
 refine WL.nil ?_
 refine kg (hK_24' [(0, st ([48, 49, 50, 51, 52, 53, 54, 55, 56, 57] : List UInt8)), (2, zP b), (4, zI 4)] _ ?_)
 refine RC.succ (fun K0_31' hK_31' => ?_)
 refine a7 (fun _ hK_32' => ?_)
 refine a7 (fun _ hK_33' => ?_)
 refine a6 ?_
 refine wm ?_
 refine wm ?_
 refine wv (OV.len rfl d5) ?_
 refine wv (OV.lss rfl rfl) ?_
 refine WL.nil ?_
 refine kg (hK_33' [(0, st ([48, 49, 50, 51, 52, 53, 54, 55, 56, 57] : List UInt8)), (2, zP b), (4, zI 4), (9, zB true)] _ ?_)
 refine j2 rfl ?_
 refine b8 ?_
 refine kg (hK_32' [(0, st ([48, 49, 50, 51, 52, 53, 54, 55, 56, 57] : List UInt8)), (2, zP b), (4, zI 4)] _ ?_)
 refine a7 (fun _ hK_34' => ?_)
 refine d7 ?_
 refine a7 (fun _ hK_35' => ?_)
 refine a6 ?_
 refine wm ?_
 refine wm ?_
 refine wv (OV.index rfl rfl d5 (by decide)) ?_
 refine wA ?_
 refine WL.nil ?_
 refine kg (hK_35' [(0, st ([48, 49, 50, 51, 52, 53, 54, 55, 56, 57] : List UInt8)), (2, zP b), (4, zI 4), (5, zU 52)] _ ?_)
 refine a7 (fun _ hK_36' => ?_)
 refine a7 (fun _ hK_37' => ?_)
 refine a6 ?_
 refine wm ?_
 refine wv (OV.geq rfl rfl) ?_
 refine WL.nil ?_
 refine kg (hK_37' [(0, st ([48, 49, 50, 51, 52, 53, 54, 55, 56, 57] : List UInt8)), (2, zP b), (4, zI 4), (5, zU 52), (16, zB false)] _ ?_)
 refine j1 rfl ?_
 refine b8 ?_
 refine kg (hK_36' [(0, st ([48, 49, 50, 51, 52, 53, 54, 55, 56, 57] : List UInt8)), (2, zP b), (4, zI 4), (5, zU 52)] _ ?_)
 refine a6 ?_
 refine wm ?_
 refine wv (OV.indexAddr rfl rfl p7 (by decide) rfl) ?_
 refine WL.storeA' (f' := fun j => zB (if j = 52 then true else (fun j => if j = 51 then true else (fun j => if j = 50 then true else (fun j => if j = 49 then true else (fun j => if j = 48 then true else (fun _ => false) j) j) j) j) j)) 0 rfl rfl rfl rfl r7 (by first | decide | omega) rfl rfl (fun j => by by_cases hj : j = 52 <;> simp [hj]) ?_
 refine WL.nil ?_
 refine kg (hK_34' [(0, st ([48, 49, 50, 51, 52, 53, 54, 55, 56, 57] : List UInt8)), (2, zP b), (4, zI 4)] _ ?_)
 refine a6 ?_
 refine wm ?_
 refine wv (OV.add rfl rfl ⟨by decide, by decide⟩) ?_
 refine wA ?_
 refine WL.nil ?_
 refine kg (hK_31' [(0, st ([48, 49, 50, 51, 52, 53, 54, 55, 56, 57] : List UInt8)), (2, zP b), (4, zI 5)] _ ?_)
 refine RC.succ (fun K0_38' hK_38' => ?_)
 refine a7 (fun _ hK_39' => ?_)
 refine a7 (fun _ hK_40' => ?_)
 refine a6 ?_
 refine wm ?_
 refine wm ?_
 refine wv (OV.len rfl d5) ?_
 refine wv (OV.lss rfl rfl) ?_
 refine WL.nil ?_
 refine kg (hK_40' [(0, st ([48, 49, 50, 51, 52, 53, 54, 55, 56, 57] : List UInt8)), (2, zP b), (4, zI 5), (9, zB true)] _ ?_)
 refine j2 rfl ?_
 refine b8 ?_
 refine kg (hK_39' [(0, st ([48, 49, 50, 51, 52, 53, 54, 55, 56, 57] : List UInt8)), (2, zP b), (4, zI 5)] _ ?_)
 refine a7 (fun _ hK_41' => ?_)
 refine d7 ?_
 refine a7 (fun _ hK_42' => ?_)
 refine a6 ?_
 refine wm ?_
 refine wm ?_
 refine wv (OV.index rfl rfl d5 (by decide)) ?_
 refine wA ?_
 refine WL.nil ?_
 refine kg (hK_42' [(0, st ([48, 49, 50, 51, 52, 53, 54, 55, 56, 57] : List UInt8)), (2, zP b), (4, zI 5), (5, zU 53)] _ ?_)
 refine a7 (fun _ hK_43' => ?_)
 refine a7 (fun _ hK_44' => ?_)
 refine a6 ?_
 refine wm ?_
 refine wv (OV.geq rfl rfl) ?_
 refine WL.nil ?_
 refine kg (hK_44' [(0, st ([48, 49, 50, 51, 52, 53, 54, 55, 56, 57] : List UInt8)), (2, zP b), (4, zI 5), (5, zU 53), (16, zB false)] _ ?_)
 refine j1 rfl ?_
 refine b8 ?_
 refine kg (hK_43' [(0, st ([48, 49, 50, 51, 52, 53, 54, 55, 56, 57] : List UInt8)), (2, zP b), (4, zI 5), (5, zU 53)] _ ?_)
 refine a6 ?_
 refine wm ?_
 refine wv (OV.indexAddr rfl rfl p7 (by decide) rfl) ?_
 refine WL.storeA' (f' := fun j => zB (if j = 53 then true else (fun j => if j = 52 then true else (fun j => if j = 51 then true else (fun j => if j = 50 then true else (fun j => if j = 49 then true else (fun j => if j = 48 then true else (fun _ => false) j) j) j) j) j) j)) 0 rfl rfl rfl rfl r7 (by first | decide | omega) rfl rfl (fun j => by by_cases hj : j = 53 <;> simp [hj]) ?_
 refine WL.nil ?_
 refine kg (hK_41' [(0, st ([48, 49, 50, 51, 52, 53, 54, 55, 56, 57] : List UInt8)), (2, zP b), (4, zI 5)] _ ?_)
 refine a6 ?_
 refine wm ?_
 refine wv (OV.add rfl rfl ⟨by decide, by decide⟩) ?_
 refine wA ?_
 refine WL.nil ?_
 refine kg (hK_38' [(0, st ([48, 49, 50, 51, 52, 53, 54, 55, 56, 57] : List UInt8)), (2, zP b), (4, zI 6)] _ ?_)
 refine RC.succ (fun K0_45' hK_45' => ?_)
 refine a7 (fun _ hK_46' => ?_)
 refine a7 (fun _ hK_47' => ?_)
 refine a6 ?_
 refine wm ?_
 refine wm ?_
 refine wv (OV.len rfl d5) ?_
 refine wv (OV.lss rfl rfl) ?_
 refine WL.nil ?_
 refine kg (hK_47' [(0, st ([48, 49, 50, 51, 52, 53, 54, 55, 56, 57] : List UInt8)), (2, zP b), (4, zI 6), (9, zB true)] _ ?_)
 refine j2 rfl ?_
 refine b8 ?_
 refine kg (hK_46' [(0, st ([48, 49, 50, 51, 52, 53, 54, 55, 56, 57] : List UInt8)), (2, zP b), (4, zI 6)] _ ?_)
 refine a7 (fun _ hK_48' => ?_)
 refine d7 ?_
 refine a7 (fun _ hK_49' => ?_)
 refine a6 ?_
 refine wm ?_
 refine wm ?_
 refine wv (OV.index rfl rfl d5 (by decide)) ?_
 refine wA ?_
 refine WL.nil ?_
 refine kg (hK_49' [(0, st ([48, 49, 50, 51, 52, 53, 54, 55, 56, 57] : List UInt8)), (2, zP b), (4, zI 6), (5, zU 54)] _ ?_)
 refine a7 (fun _ hK_50' => ?_)
 refine a7 (fun _ hK_51' => ?_)
 refine a6 ?_
 refine wm ?_
 refine wv (OV.geq rfl rfl) ?_
 refine WL.nil ?_
 refine kg (hK_51' [(0, st ([48, 49, 50, 51, 52, 53, 54, 55, 56, 57] : List UInt8)), (2, zP b), (4, zI 6), (5, zU 54), (16, zB false)] _ ?_)
 refine j1 rfl ?_
 refine b8 ?_
 refine kg (hK_50' [(0, st ([48, 49, 50, 51, 52, 53, 54, 55, 56, 57] : List UInt8)), (2, zP b), (4, zI 6), (5, zU 54)] _ ?_)
 refine a6 ?_
 refine wm ?_
 refine wv (OV.indexAddr rfl rfl p7 (by decide) rfl) ?_
 refine WL.storeA' (f' := fun j => zB (if j = 54 then true else (fun j => if j = 53 then true else (fun j => if j = 52 then true else (fun j => if j = 51 then true else (fun j => if j = 50 then true else (fun j => if j = 49 then true else (fun j => if j = 48 then true else (fun _ => false) j) j) j) j) j) j) j)) 0 rfl rfl rfl rfl r7 (by first | decide | omega) rfl rfl (fun j => by by_cases hj : j = 54 <;> simp [hj]) ?_
 refine WL.nil ?_
 refine kg (hK_48' [(0, st ([48, 49, 50, 51, 52, 53, 54, 55, 56, 57] : List UInt8)), (2, zP b), (4, zI 6)] _ ?_)
 refine a6 ?_
 refine wm ?_
 refine wv (OV.add rfl rfl ⟨by decide, by decide⟩) ?_
 refine wA ?_
 refine WL.nil ?_
 refine kg (hK_45' [(0, st ([48, 49, 50, 51, 52, 53, 54, 55, 56, 57] : List UInt8)), (2, zP b), (4, zI 7)] _ ?_)
 refine RC.succ (fun K0_52' hK_52' => ?_)
 refine a7 (fun _ hK_53' => ?_)
 refine a7 (fun _ hK_54' => ?_)
 refine a6 ?_
 refine wm ?_
 refine wm ?_
 refine wv (OV.len rfl d5) ?_
 refine wv (OV.lss rfl rfl) ?_
 refine WL.nil ?_
 refine kg (hK_54' [(0, st ([48, 49, 50, 51, 52, 53, 54, 55, 56, 57] : List UInt8)), (2, zP b), (4, zI 7), (9, zB true)] _ ?_)
 refine j2 rfl ?_
 refine b8 ?_
 refine kg (hK_53' [(0, st ([48, 49, 50, 51, 52, 53, 54, 55, 56, 57] : List UInt8)), (2, zP b), (4, zI 7)] _ ?_)
 refine a7 (fun _ hK_55' => ?_)
 refine d7 ?_
 refine a7 (fun _ hK_56' => ?_)
 refine a6 ?_
 refine wm ?_
 refine wm ?_
 refine wv (OV.index rfl rfl d5 (by decide)) ?_
 refine wA ?_
 refine WL.nil ?_
 refine kg (hK_56' [(0, st ([48, 49, 50, 51, 52, 53, 54, 55, 56, 57] : List UInt8)), (2, zP b), (4, zI 7), (5, zU 55)] _ ?_)
 refine a7 (fun _ hK_57' => ?_)
 refine a7 (fun _ hK_58' => ?_)
 refine a6 ?_
 refine wm ?_
 refine wv (OV.geq rfl rfl) ?_
 refine WL.nil ?_
 refine kg (hK_58' [(0, st ([48, 49, 50, 51, 52, 53, 54, 55, 56, 57] : List UInt8)), (2, zP b), (4, zI 7), (5, zU 55), (16, zB false)] _ ?_)
 refine j1 rfl ?_
 refine b8 ?_
 refine kg (hK_57' [(0, st ([48, 49, 50, 51, 52, 53, 54, 55, 56, 57] : List UInt8)), (2, zP b), (4, zI 7), (5, zU 55)] _ ?_)
 refine a6 ?_
 refine wm ?_
 refine wv (OV.indexAddr rfl rfl p7 (by decide) rfl) ?_
 refine WL.storeA' (f' := fun j => zB (if j = 55 then true else (fun j => if j = 54 then true else (fun j => if j = 53 then true else (fun j => if j = 52 then true else (fun j => if j = 51 then true else (fun j => if j = 50 then true else (fun j => if j = 49 then true else (fun j => if j = 48 then true else (fun _ => false) j) j) j) j) j) j) j) j)) 0 rfl rfl rfl rfl r7 (by first | decide | omega) rfl rfl (fun j => by by_cases hj : j = 55 <;> simp [hj]) ?_
 refine WL.nil ?_
 refine kg (hK_55' [(0, st ([48, 49, 50, 51, 52, 53, 54, 55, 56, 57] : List UInt8)), (2, zP b), (4, zI 7)] _ ?_)
 refine a6 ?_
 refine wm ?_
 refine wv (OV.add rfl rfl ⟨by decide, by decide⟩) ?_
 refine wA ?_
 refine WL.nil ?_
 refine kg (hK_52' [(0, st ([48, 49, 50, 51, 52, 53, 54, 55, 56, 57] : List UInt8)), (2, zP b), (4, zI 8)] _ ?_)
 refine RC.succ (fun K0_59' hK_59' => ?_)
 refine a7 (fun _ hK_60' => ?_)
 refine a7 (fun _ hK_61' => ?_)
 refine a6 ?_
 refine wm ?_
 refine wm ?_
 refine wv (OV.len rfl d5) ?_
 refine wv (OV.lss rfl rfl) ?_
 refine WL.nil ?_
 refine kg (hK_61' [(0, st ([48, 49, 50, 51, 52, 53, 54, 55, 56, 57] : List UInt8)), (2, zP b), (4, zI 8), (9, zB true)] _ ?_)
 refine j2 rfl ?_
 refine b8 ?_
 refine kg (hK_60' [(0, st ([48, 49, 50, 51, 52, 53, 54, 55, 56, 57] : List UInt8)), (2, zP b), (4, zI 8)] _ ?_)
 refine a7 (fun _ hK_62' => ?_)
 refine d7 ?_
 refine a7 (fun _ hK_63' => ?_)
 refine a6 ?_
 refine wm ?_
 refine wm ?_
 refine wv (OV.index rfl rfl d5 (by decide)) ?_
 refine wA ?_
 refine WL.nil ?_
 refine kg (hK_63' [(0, st ([48, 49, 50, 51, 52, 53, 54, 55, 56, 57] : List UInt8)), (2, zP b), (4, zI 8), (5, zU 56)] _ ?_)
 refine a7 (fun _ hK_64' => ?_)
 refine a7 (fun _ hK_65' => ?_)
 refine a6 ?_
 refine wm ?_
 refine wv (OV.geq rfl rfl) ?_
 refine WL.nil ?_
 refine kg (hK_65' [(0, st ([48, 49, 50, 51, 52, 53, 54, 55, 56, 57] : List UInt8)), (2, zP b), (4, zI 8), (5, zU 56), (16, zB false)] _ ?_)
 refine j1 rfl ?_
 refine b8 ?_
 refine kg (hK_64' [(0, st ([48, 49, 50, 51, 52, 53, 54, 55, 56, 57] : List UInt8)), (2, zP b), (4, zI 8), (5, zU 56)] _ ?_)
 refine a6 ?_
 refine wm ?_
 refine wv (OV.indexAddr rfl rfl p7 (by decide) rfl) ?_
 refine WL.storeA' (f' := fun j => zB (if j = 56 then true else (fun j => if j = 55 then true else (fun j => if j = 54 then true else (fun j => if j = 53 then true else (fun j => if j = 52 then true else (fun j => if j = 51 then true else (fun j => if j = 50 then true else (fun j => if j = 49 then true else (fun j => if j = 48 then true else (fun _ => false) j) j) j) j) j) j) j) j) j)) 0 rfl rfl rfl rfl r7 (by first | decide | omega) rfl rfl (fun j => by by_cases hj : j = 56 <;> simp [hj]) ?_
 refine WL.nil ?_
 refine kg (hK_62' [(0, st ([48, 49, 50, 51, 52, 53, 54, 55, 56, 57] : List UInt8)), (2, zP b), (4, zI 8)] _ ?_)
 refine a6 ?_
 refine wm ?_
 refine wv (OV.add rfl rfl ⟨by decide, by decide⟩) ?_
 refine wA ?_
 refine WL.nil ?_
 refine kg (hK_59' [(0, st ([48, 49, 50, 51, 52, 53, 54, 55, 56, 57] : List UInt8)), (2, zP b), (4, zI 9)] _ ?_)
 refine RC.succ (fun K0_66' hK_66' => ?_)
 refine a7 (fun _ hK_67' => ?_)
 refine a7 (fun _ hK_68' => ?_)
 refine a6 ?_
 refine wm ?_
 refine wm ?_
 refine wv (OV.len rfl d5) ?_
 refine wv (OV.lss rfl rfl) ?_
 refine WL.nil ?_
 refine kg (hK_68' [(0, st ([48, 49, 50, 51, 52, 53, 54, 55, 56, 57] : List UInt8)), (2, zP b), (4, zI 9), (9, zB true)] _ ?_)
 refine j2 rfl ?_
 refine b8 ?_
 refine kg (hK_67' [(0, st ([48, 49, 50, 51, 52, 53, 54, 55, 56, 57] : List UInt8)), (2, zP b), (4, zI 9)] _ ?_)
 refine a7 (fun _ hK_69' => ?_)
 refine d7 ?_
 refine a7 (fun _ hK_70' => ?_)
 refine a6 ?_
 refine wm ?_
 refine wm ?_
 refine wv (OV.index rfl rfl d5 (by decide)) ?_
 refine wA ?_
 refine WL.nil ?_
 refine kg (hK_70' [(0, st ([48, 49, 50, 51, 52, 53, 54, 55, 56, 57] : List UInt8)), (2, zP b), (4, zI 9), (5, zU 57)] _ ?_)
 refine a7 (fun _ hK_71' => ?_)
 refine a7 (fun _ hK_72' => ?_)
 refine a6 ?_
 refine wm ?_
 refine wv (OV.geq rfl rfl) ?_
 refine WL.nil ?_
 refine kg (hK_72' [(0, st ([48, 49, 50, 51, 52, 53, 54, 55, 56, 57] : List UInt8)), (2, zP b), (4, zI 9), (5, zU 57), (16, zB false)] _ ?_)
 refine j1 rfl ?_
 refine b8 ?_
 refine kg (hK_71' [(0, st ([48, 49, 50, 51, 52, 53, 54, 55, 56, 57] : List UInt8)), (2, zP b), (4, zI 9), (5, zU 57)] _ ?_)
 refine a6 ?_
 refine wm ?_
 refine wv (OV.indexAddr rfl rfl p7 (by decide) rfl) ?_
 refine WL.storeA' (f' := fun j => zB (if j = 57 then true else (fun j => if j = 56 then true else (fun j => if j = 55 then true else (fun j => if j = 54 then true else (fun j => if j = 53 then true else (fun j => if j = 52 then true else (fun j => if j = 51 then true else (fun j => if j = 50 then true else (fun j => if j = 49 then true else (fun j => if j = 48 then true else (fun _ => false) j) j) j) j) j) j) j) j) j) j)) 0 rfl rfl rfl rfl r7 (by first | decide | omega) rfl rfl (fun j => by by_cases hj : j = 57 <;> simp [hj]) ?_
 refine WL.nil ?_
 refine kg (hK_69' [(0, st ([48, 49, 50, 51, 52, 53, 54, 55, 56, 57] : List UInt8)), (2, zP b), (4, zI 9)] _ ?_)
 refine a6 ?_
 refine wm ?_
 refine wv (OV.add rfl rfl ⟨by decide, by decide⟩) ?_
 refine wA ?_
 refine WL.nil ?_
 refine kg (hK_66' [(0, st ([48, 49, 50, 51, 52, 53, 54, 55, 56, 57] : List UInt8)), (2, zP b), (4, zI 10)] _ ?_)
 refine RC.succ (fun K0_73' hK_73' => ?_)
 refine a7 (fun _ hK_74' => ?_)
 refine a7 (fun _ hK_75' => ?_)
 refine a6 ?_
 refine wm ?_
 refine wm ?_
 refine wv (OV.len rfl d5) ?_
 refine wv (OV.lss rfl rfl) ?_
 refine WL.nil ?_
 refine kg (hK_75' [(0, st ([48, 49, 50, 51, 52, 53, 54, 55, 56, 57] : List UInt8)), (2, zP b), (4, zI 10), (9, zB false)] _ ?_)
 refine j1 rfl ?_
 refine u7 ?_
 refine kg (hK_1' [(2, zP b)] _ ?_)
 refine a7 (fun _ hK_76' => ?_)
 refine a6 ?_
 refine wv (OV.loadR rfl (At.own 0 rfl) (by rw [o9]; exact afu)) ?_
 refine WL.storeW (vs := arr 256 (fun j => zB ((fun j => if j = 57 then true else (fun j => if j = 56 then true else (fun j => if j = 55 then true else (fun j => if j = 54 then true else (fun j => if j = 53 then true else (fun j => if j = 52 then true else (fun j => if j = 51 then true else (fun j => if j = 50 then true else (fun j => if j = 49 then true else (fun j => if j = 48 then true else (fun _ => false) j) j) j) j) j) j) j) j) j) j) j))) 0 rfl rfl rfl rfl (o9 _ _) ad1 ((o9 _ _).trans (o9 _ _).symm) (aip _ _ (fun _ => rfl)) rfl ?_
 refine wA ?_
 refine WL.nil ?_
 refine kg (hK_76' [(2, zP b), (3, zB true)] _ ?_)
 refine e7 ?_
 exact hE.ret [] rfl rfl (.inl ⟨_, _, h, rfl⟩) (j6.of2 rfl (RV.row rfl (At.own 0 rfl) (by rw [o9]; exact afu)) (RV.tmp rfl))
def ac8 (as0 : Nat → Bool) (c : Int) (K : Bool → Prop) : Prop :=
 (0 ≤ c ∧ c < 256) ∧
 K (as0 ((c).toNat))
theorem ahq (b : Nat) (as0 : Nat → Bool) (c : Int) (K : Bool → Prop) (h : ac8 as0 c K) :
  i7 Tryd.prog 56 [zP b, zU c] [(b, .cells (arr 256 (fun j => zB (as0 j))).toArray 97 (0, 0))] [] (fun o => (∃ (v : Bool), K v ∧ o = .ret (zB v) []) ∨ (False)) := by
 unfold ac8 at h
 refine d8 (n := 10) (L0 := [(0, zP b), (1, zU c)]) Tryd.func56 rfl rfl rfl rfl (fun w0 M Q hE => ?_)
 refine a7 (fun _ hK => ?_)
 refine a6 ?_
 refine wA ?_
 refine WL.nil ?_
 refine kg (hK [(0, zP b), (1, zU c)] _ ?_)
 refine a7 (fun _ hK_1' => ?_)
 refine a6 ?_
 refine wm ?_
 refine wm ?_
 refine wv (OV.nilCheck rfl) ?_
 obtain ⟨o, h⟩ := h
 refine wv (OV.indexAddr1 rfl rfl p7 o) ?_
 refine wv (OV.load rfl (At.ro 0 rfl) (al4 (by first | omega | assumption)) afe) ?_
 refine wA ?_
 refine WL.nil ?_
 refine kg (hK_1' [(4, zB (as0 ((c).toNat)))] _ ?_)
 refine e7 ?_
 exact hE.ret [] rfl rfl (.inl ⟨_, h, rfl⟩) (j6.of1 rfl (RV.tmp rfl))
def aax (c : UInt8) : Bool := decide (48 ≤ c.toNat) && decide (c.toNat ≤ 57)
def aa0 (j : Nat) : Bool := decide (48 ≤ j) && decide (j ≤ 57)
theorem ah0 : i7 Tryd.prog 43 [st [48, 49, 50, 51, 52, 53, 54, 55, 56, 57]] [] [] (Ret (.tuple #[.agg (arr 256 (fun j => zB (aa0 j))).toArray, .bool true]) []) := by
 refine (aj6 (fun f b => f = aa0 ∧ b = true) ?_).weak ?_
 ·unfold adk
  refine ⟨funext fun j => ?_, rfl⟩
  unfold aa0
  rw [Bool.eq_iff_iff]
  simp
  omega
 ·rintro o (⟨f, b, ⟨rfl, rfl⟩, rfl⟩ | h)
  ·rfl
  ·cases h
theorem ab2 (f : Nat → Bool) (b : Nat) (c : Int) (h : 0 ≤ c ∧ c < 256) : i7 Tryd.prog 56 [.pointer (some ⟨b, 0, none⟩), .int .u8 c] [(b, .cells (arr 256 (fun j => zB (f j))).toArray 97 (0, 0))] [] (Ret (.bool (f c.toNat)) []) :=
 i7.one (e := fun v => .bool v) (ahq b f c (fun v => v = f c.toNat) ⟨h, rfl⟩)
def abd (s : List UInt8) (as0 : Nat → Bool) (K : (List UInt8) → Prop) : Prop :=
 ∃ (J0 : (List UInt8) → Prop),
  (∀ (s_3' : List UInt8), J0 s_3' →
   K s_3') ∧
  ∃ (Inv_1' : (List UInt8) → Prop) (mu_1' : (List UInt8) → Nat),
   Inv_1' s ∧ ∀ (s_5' : List UInt8), Inv_1' s_5' →
    (if (decide (0 < (s_5'.length : Int))) = true then
     (0 ≤ (0 : Int) ∧ (0 : Int) < s_5'.length) ∧
     (0 ≤ ((s_5'.getD (0 : Int).toNat 0).toNat : Int) ∧ ((s_5'.getD (0 : Int).toNat 0).toNat : Int) < 256) ∧
     (if (!(as0 (((s_5'.getD (0 : Int).toNat 0).toNat : Int)).toNat)) = true then
      J0 s_5'
     else
      (0 ≤ (1 : Int) ∧ (1 : Int) ≤ s_5'.length) ∧
      Inv_1' (s_5'.drop (1 : Int).toNat) ∧ mu_1' (s_5'.drop (1 : Int).toNat) < mu_1' s_5')
    else
     J0 s_5')
theorem ag1 (b : Nat) (s : List UInt8) (as0 : Nat → Bool) (K : (List UInt8) → Prop) (h : abd s as0 K) :
  i7 Tryd.prog 44 [st s, zP b] [(b, .cells (arr 256 (fun j => zB (as0 j))).toArray 97 (0, 0))] [] (fun o => (∃ (v : List UInt8), K v ∧ o = .ret (st v) []) ∨ (False)) := by
 unfold abd at h
 refine d8 (n := 16) (L0 := [(0, st s), (1, zP b)]) Tryd.func44 rfl rfl rfl rfl (fun w0 M Q hE => ?_)
 refine a7 (fun _ hK => ?_)
 refine a6 ?_
 refine wA ?_
 refine WL.nil ?_
 refine kg (hK [(0, st s), (1, zP b)] _ ?_)
 obtain ⟨J0, hJ, h⟩ := h
 refine q7 (X := (List UInt8)) (fun σ => J0 σ) (fun σ => [(0, st σ)]) (fun σ => []) ?_ (fun K0_14' hK_14' => ?_)
 ·rintro s_3' hj
  replace h := hJ s_3' hj
  show WC _ _ _ _ [(0, st s_3')] []
  refine a7 (fun _ hK_15' => ?_)
  refine a6 ?_
  refine wm ?_
  refine wA ?_
  refine WL.nil ?_
  refine kg (hK_15' [(4, st s_3')] _ ?_)
  refine e7 ?_
  exact hE.ret [] rfl rfl (.inl ⟨_, h, rfl⟩) (j6.of1 rfl (RV.tmp rfl))
 ·skip
  refine d7 ?_
  obtain ⟨Inv_1', mu_1', h0_1', hr_1'⟩ := h
  refine abh (S := (List UInt8)) (fun σ => Inv_1' σ) (fun σ => mu_1' σ) (fun σ => [(0, st σ), (1, zP b)]) (fun σ => []) s h0_1' ⟨rfl, rfl, trivial⟩ rfl ?_
  rintro s_5' hi K0_24' hK_24'
  have h := hr_1' s_5' hi
  show WC _ _ _ _ [(0, st s_5'), (1, zP b)] []
  refine a7 (fun _ hK_25' => ?_)
  refine a7 (fun _ hK_26' => ?_)
  refine a6 ?_
  refine wm ?_
  refine wv (OV.len rfl d5) ?_
  refine wv (OV.gtr rfl rfl) ?_
  refine WL.nil ?_
  refine kg (hK_26' [(0, st s_5'), (1, zP b), (7, zB (decide (0 < (s_5'.length : Int))))] _ ?_)
  refine d4 (b := decide (0 < (s_5'.length : Int))) rfl (fun hb => ?_) (fun hb => ?_)
  ·replace h := k9 h hb
   refine b8 ?_
   refine kg (hK_25' [(0, st s_5'), (1, zP b)] _ ?_)
   refine d7 ?_
   refine a7 (fun _ hK_27' => ?_)
   refine a7 (fun _ hK_28' => ?_)
   refine a6 ?_
   refine wm ?_
   refine wm ?_
   obtain ⟨o_15', h⟩ := h
   refine wv (OV.index rfl rfl d5 o_15') ?_
   obtain ⟨o_16', h⟩ := h
   refine WL.call (A := []) afp rfl (ab2 as0 b ((s_5'.getD (0 : Int).toNat 0).toNat : Int) o_16') rfl ⟨.inr (List.mem_of_getElem? (i := 0) rfl), trivial⟩ rfl rfl ?_
   refine wv (OV.not rfl) ?_
   refine WL.nil ?_
   refine kg (hK_28' [(0, st s_5'), (1, zP b), (12, zB (!(as0 (((s_5'.getD (0 : Int).toNat 0).toNat : Int)).toNat)))] _ ?_)
   refine d4 (b := !(as0 (((s_5'.getD (0 : Int).toNat 0).toNat : Int)).toNat)) rfl (fun hb => ?_) (fun hb => ?_)
   ·replace h := k9 h hb
    refine u7 ?_
    exact kh (hK_14' s_5' h) []
   ·replace h := l6 h hb
    refine b8 ?_
    refine kg (hK_27' [(0, st s_5'), (1, zP b)] _ ?_)
    refine a6 ?_
    refine wm ?_
    obtain ⟨o_17', h⟩ := h
    refine wv (OV.sliceL rfl rfl d5 o_17') ?_
    refine wA ?_
    refine WL.nil ?_
    exact kh (hK_24' (s_5'.drop (1 : Int).toNat) h.1 h.2) []
  ·replace h := l6 h hb
   refine u7 ?_
   exact kh (hK_14' s_5' h) []
def aaw (s : List UInt8) (as0 : Nat → Bool) (K : (List UInt8) → Prop) : Prop :=
 ∃ (J0 : (List UInt8) → Prop),
  (∀ (s_3' : List UInt8), J0 s_3' →
   K s_3') ∧
  ∃ (Inv_1' : (List UInt8) → Prop) (mu_1' : (List UInt8) → Nat),
   Inv_1' s ∧ ∀ (s_5' : List UInt8), Inv_1' s_5' →
    (if (decide (0 < (s_5'.length : Int))) = true then
     (I64 ((s_5'.length : Int) - 1)) ∧
     (0 ≤ ((s_5'.length : Int) - 1) ∧ ((s_5'.length : Int) - 1) < s_5'.length) ∧
     (0 ≤ ((s_5'.getD ((s_5'.length : Int) - 1).toNat 0).toNat : Int) ∧ ((s_5'.getD ((s_5'.length : Int) - 1).toNat 0).toNat : Int) < 256) ∧
     (if (!(as0 (((s_5'.getD ((s_5'.length : Int) - 1).toNat 0).toNat : Int)).toNat)) = true then
      J0 s_5'
     else
      (I64 ((s_5'.length : Int) - 1)) ∧
      (0 ≤ ((s_5'.length : Int) - 1) ∧ ((s_5'.length : Int) - 1) ≤ s_5'.length) ∧
      Inv_1' (s_5'.take ((s_5'.length : Int) - 1).toNat) ∧ mu_1' (s_5'.take ((s_5'.length : Int) - 1).toNat) < mu_1' s_5')
    else
     J0 s_5')
theorem af8 (b : Nat) (s : List UInt8) (as0 : Nat → Bool) (K : (List UInt8) → Prop) (h : aaw s as0 K) :
  i7 Tryd.prog 45 [st s, zP b] [(b, .cells (arr 256 (fun j => zB (as0 j))).toArray 97 (0, 0))] [] (fun o => (∃ (v : List UInt8), K v ∧ o = .ret (st v) []) ∨ (False)) := by
 unfold aaw at h
 refine d8 (n := 22) (L0 := [(0, st s), (1, zP b)]) Tryd.func45 rfl rfl rfl rfl (fun w0 M Q hE => ?_)
 refine a7 (fun _ hK => ?_)
 refine a6 ?_
 refine wA ?_
 refine WL.nil ?_
 refine kg (hK [(0, st s), (1, zP b)] _ ?_)
 obtain ⟨J0, hJ, h⟩ := h
 refine q7 (X := (List UInt8)) (fun σ => J0 σ) (fun σ => [(0, st σ)]) (fun σ => []) ?_ (fun K0_14' hK_14' => ?_)
 ·rintro s_3' hj
  replace h := hJ s_3' hj
  show WC _ _ _ _ [(0, st s_3')] []
  refine a7 (fun _ hK_15' => ?_)
  refine a6 ?_
  refine wm ?_
  refine wA ?_
  refine WL.nil ?_
  refine kg (hK_15' [(4, st s_3')] _ ?_)
  refine e7 ?_
  exact hE.ret [] rfl rfl (.inl ⟨_, h, rfl⟩) (j6.of1 rfl (RV.tmp rfl))
 ·skip
  refine d7 ?_
  obtain ⟨Inv_1', mu_1', h0_1', hr_1'⟩ := h
  refine abh (S := (List UInt8)) (fun σ => Inv_1' σ) (fun σ => mu_1' σ) (fun σ => [(0, st σ), (1, zP b)]) (fun σ => []) s h0_1' ⟨rfl, rfl, trivial⟩ rfl ?_
  rintro s_5' hi K0_24' hK_24'
  have h := hr_1' s_5' hi
  show WC _ _ _ _ [(0, st s_5'), (1, zP b)] []
  refine a7 (fun _ hK_25' => ?_)
  refine a7 (fun _ hK_26' => ?_)
  refine a6 ?_
  refine wm ?_
  refine wv (OV.len rfl d5) ?_
  refine wv (OV.gtr rfl rfl) ?_
  refine WL.nil ?_
  refine kg (hK_26' [(0, st s_5'), (1, zP b), (7, zB (decide (0 < (s_5'.length : Int))))] _ ?_)
  refine d4 (b := decide (0 < (s_5'.length : Int))) rfl (fun hb => ?_) (fun hb => ?_)
  ·replace h := k9 h hb
   refine b8 ?_
   refine kg (hK_25' [(0, st s_5'), (1, zP b)] _ ?_)
   refine d7 ?_
   refine a7 (fun _ hK_27' => ?_)
   refine a7 (fun _ hK_28' => ?_)
   refine a6 ?_
   refine wm ?_
   refine wm ?_
   refine wm ?_
   refine wv (OV.len rfl d5) ?_
   obtain ⟨o_25', h⟩ := h
   refine wv (OV.sub rfl rfl o_25') ?_
   obtain ⟨o_26', h⟩ := h
   refine wv (OV.index rfl rfl d5 o_26') ?_
   obtain ⟨o_27', h⟩ := h
   refine WL.call (A := []) afp rfl (ab2 as0 b ((s_5'.getD ((s_5'.length : Int) - 1).toNat 0).toNat : Int) o_27') rfl ⟨.inr (List.mem_of_getElem? (i := 0) rfl), trivial⟩ rfl rfl ?_
   refine wv (OV.not rfl) ?_
   refine WL.nil ?_
   refine kg (hK_28' [(0, st s_5'), (1, zP b), (15, zB (!(as0 (((s_5'.getD ((s_5'.length : Int) - 1).toNat 0).toNat : Int)).toNat)))] _ ?_)
   refine d4 (b := !(as0 (((s_5'.getD ((s_5'.length : Int) - 1).toNat 0).toNat : Int)).toNat)) rfl (fun hb => ?_) (fun hb => ?_)
   ·replace h := k9 h hb
    refine u7 ?_
    exact kh (hK_14' s_5' h) []
   ·replace h := l6 h hb
    refine b8 ?_
    refine kg (hK_27' [(0, st s_5'), (1, zP b)] _ ?_)
    refine a6 ?_
    refine wm ?_
    refine wm ?_
    refine wv (OV.len rfl d5) ?_
    obtain ⟨o_28', h⟩ := h
    refine wv (OV.sub rfl rfl o_28') ?_
    obtain ⟨o_29', h⟩ := h
    refine wv (OV.sliceH rfl rfl d5 o_29') ?_
    refine wA ?_
    refine WL.nil ?_
    exact kh (hK_24' (s_5'.take ((s_5'.length : Int) - 1).toNat) h.1 h.2) []
  ·replace h := l6 h hb
   refine u7 ?_
   exact kh (hK_14' s_5' h) []
def n7 (f : Nat → Bool) (s : Bs) : Bs := s.dropWhile fun c => f c.toNat
def m0 (f : Nat → Bool) (s : Bs) : Bs := (s.reverse.dropWhile fun c => f c.toNat).reverse
theorem aln (p : UInt8 → Bool) : ∀ l : Bs, (l.dropWhile p).length ≤ l.length
 | [] => Nat.le_refl _
 | c :: r => by
  rw [List.dropWhile_cons]
  split
  ·have := aln p r; rw [List.length_cons]; omega
  ·exact Nat.le_refl _
theorem aeu (f : Nat → Bool) (b : Nat) (s : Bs) (_h : s.length ≤ 140737488355328) : i7 Tryd.prog 44 [st s, .pointer (some ⟨b, 0, none⟩)] [(b, .cells (arr 256 (fun j => zB (f j))).toArray 97 (0, 0))] [] (Ret (st (n7 f s)) []) := by
 refine i7.one (ag1 b s f (fun v => v = n7 f s) ?_)
 unfold abd
 refine ⟨fun v => v = n7 f s, fun v hv => hv, fun v => n7 f v = n7 f s, fun v => v.length, rfl, ?_⟩
 intro v hv
 cases v with
 | nil =>
  rw [if_neg (by simp)]
  exact hv
 | cons c r =>
  rw [if_pos (by simp)]
  have hlt := c.toNat_lt
  refine ⟨⟨by omega, by simp⟩, ⟨by omega, by show ((c.toNat : Nat) : Int) < 256; omega⟩, ?_⟩
  have hf : (!(f ((((c :: r).getD (0 : Int).toNat 0).toNat : Int)).toNat)) = !f c.toNat := rfl
  rw [hf]
  cases hc : f c.toNat with
  | false =>
   rw [if_pos (show (!false) = true from rfl)]
   rw [← hv]; unfold n7; rw [List.dropWhile_cons, hc]; rfl
  | true =>
   rw [if_neg (by simp)]
   refine ⟨⟨by omega, by simp; omega⟩, ?_, by show r.length < (c :: r).length; simp⟩
   show n7 f r = _
   rw [← hv]; unfold n7; rw [List.dropWhile_cons, hc]; rfl
theorem adl (f : Nat → Bool) (b : Nat) (s : Bs) (h : s.length ≤ 140737488355328) : i7 Tryd.prog 45 [st s, .pointer (some ⟨b, 0, none⟩)] [(b, .cells (arr 256 (fun j => zB (f j))).toArray 97 (0, 0))] [] (Ret (st (m0 f s)) []) := by
 refine i7.one (af8 b s f (fun v => v = m0 f s) ?_)
 unfold aaw
 refine ⟨fun v => v = m0 f s, fun v hv => hv, fun v => m0 f v = m0 f s ∧ v.length ≤ s.length, fun v => v.length, ⟨rfl, Nat.le_refl _⟩, ?_⟩
 rintro v ⟨hv, hl⟩
 rcases List.eq_nil_or_concat v with rfl | ⟨r, c, rfl⟩
 ·rw [if_neg (by simp)]
  exact hv
 ·rw [List.concat_eq_append] at *
  have hlen : ((r ++ [c]).length : Int) - 1 = (r.length : Int) := by simp
  rw [if_pos (by simp)]
  have hg : (r ++ [c]).getD r.length 0 = c := by simp [List.getD_eq_getElem?_getD]
  have hlt := c.toNat_lt
  have hll : (r ++ [c]).length = r.length + 1 := by simp
  rw [hlen, Int.toNat_natCast, hg, Int.toNat_natCast]
  refine ⟨by unfold I64; omega, ⟨by omega, by omega⟩, ⟨by omega, by omega⟩, ?_⟩
  cases hc : f c.toNat with
  | false =>
   rw [if_pos (show (!false) = true from rfl)]
   rw [← hv]; unfold m0; rw [List.reverse_append, List.reverse_singleton, List.singleton_append, List.dropWhile_cons, hc]; simp
  | true =>
   rw [if_neg (by simp)]
   refine ⟨by unfold I64; omega, ⟨by omega, by omega⟩, ⟨?_, ?_⟩, ?_⟩
   ·rw [List.take_left' rfl, ← hv]; unfold m0; rw [List.reverse_append, List.reverse_singleton, List.singleton_append, List.dropWhile_cons, hc]; simp
   ·rw [List.take_left' rfl]; omega
   ·show ((r ++ [c]).take r.length).length < (r ++ [c]).length
    rw [List.take_left' rfl]; omega
def agc (s : List UInt8) (K : (List UInt8) → Prop) : Prop :=
 (if ((decide (s = [])) || (decide (([48, 49, 50, 51, 52, 53, 54, 55, 56, 57] : List UInt8) = []))) = true then
  K s
 else
  (s.length ≤ 140737488355328) ∧
  ((m0 aa0 s).length ≤ 140737488355328) ∧
  K (n7 aa0 (m0 aa0 s)))
theorem alx  (s : List UInt8) (K : (List UInt8) → Prop) (h : agc s K) :
  i7 Tryd.prog 31 [st s, st ([48, 49, 50, 51, 52, 53, 54, 55, 56, 57] : List UInt8)] [] [] (fun o => (∃ (v : List UInt8), K v ∧ o = .ret (st v) []) ∨ (False)) := by
 unfold agc at h
 refine d8 (n := 43) (L0 := [(0, st s), (1, st ([48, 49, 50, 51, 52, 53, 54, 55, 56, 57] : List UInt8))]) Tryd.func31 rfl rfl rfl rfl (fun w0 M Q hE => ?_)
 refine a7 (fun _ hK => ?_)
 refine a6 ?_
 refine wA ?_
 refine WL.nil ?_
 refine kg (hK [(0, st s), (1, st ([48, 49, 50, 51, 52, 53, 54, 55, 56, 57] : List UInt8))] _ ?_)
 refine a7 (fun _ hK_1' => ?_)
 refine a7 (fun _ hK_2' => ?_)
 refine a6 ?_
 refine wm ?_
 refine wv (OV.eqlS rfl rfl) ?_
 refine wm ?_
 refine WL.cut 3 [(0, st s), (1, st ([48, 49, 50, 51, 52, 53, 54, 55, 56, 57] : List UInt8)), (12, zB ((decide (s = [])) || (decide (([48, 49, 50, 51, 52, 53, 54, 55, 56, 57] : List UInt8) = []))))] ?_ (fun K0_3' hK_3' => ?_)
 rotate_left
 ·refine WL.split (decide (s = [])) (fun hb => ?_) (fun hb => ?_)
  ·refine WL.set 9 rfl (congrArg zB hb) ?_
   refine wk ?_
   refine wk ?_
   refine wv (OV.pickT rfl rfl) ?_
   refine WL.set 12 rfl (oT (v := decide (([48, 49, 50, 51, 52, 53, 54, 55, 56, 57] : List UInt8) = [])) hb) ?_
   exact WL.end_ (kg hK_3')
  ·refine WL.set 9 rfl (congrArg zB hb) ?_
   refine wm ?_
   refine wv (OV.eqlS rfl rfl) ?_
   refine wv (OV.pickF rfl rfl) ?_
   refine WL.set 12 rfl (oF (v := decide (([48, 49, 50, 51, 52, 53, 54, 55, 56, 57] : List UInt8) = [])) hb) ?_
   exact WL.end_ (kg hK_3')
 refine WL.nil ?_
 refine kg (hK_2' [(0, st s), (1, st ([48, 49, 50, 51, 52, 53, 54, 55, 56, 57] : List UInt8)), (12, zB ((decide (s = [])) || (decide (([48, 49, 50, 51, 52, 53, 54, 55, 56, 57] : List UInt8) = []))))] _ ?_)
 refine d4 (b := (decide (s = [])) || (decide (([48, 49, 50, 51, 52, 53, 54, 55, 56, 57] : List UInt8) = []))) rfl (fun hb => ?_) (fun hb => ?_)
 ·replace h := k9 h hb
  refine a7 (fun _ hK_4' => ?_)
  refine a6 ?_
  refine wm ?_
  refine wA ?_
  refine WL.nil ?_
  refine kg (hK_4' [(4, st s)] _ ?_)
  refine e7 ?_
  exact hE.ret [] rfl rfl (.inl ⟨_, h, rfl⟩) (j6.of1 rfl (RV.tmp rfl))
 ·replace h := l6 h hb
  refine b8 ?_
  refine kg (hK_1' [(0, st s), (1, st ([48, 49, 50, 51, 52, 53, 54, 55, 56, 57] : List UInt8))] _ ?_)
  refine a7 (fun _ hK_5' => ?_)
  refine a7 (fun _ hK_6' => ?_)
  refine a6 ?_
  refine wm ?_
  refine wv (OV.len rfl d5) ?_
  refine wv (OV.eql rfl rfl) ?_
  refine wm ?_
  refine wk ?_
  refine wk ?_
  refine wk ?_
  refine wv (OV.pickF rfl rfl) ?_
  refine WL.nil ?_
  refine kg (hK_6' [(0, st s), (1, st ([48, 49, 50, 51, 52, 53, 54, 55, 56, 57] : List UInt8)), (21, zB false)] _ ?_)
  refine j1 rfl ?_
  refine b8 ?_
  refine kg (hK_5' [(0, st s), (1, st ([48, 49, 50, 51, 52, 53, 54, 55, 56, 57] : List UInt8))] _ ?_)
  refine a7 (fun _ hK_7' => ?_)
  refine a7 (fun _ hK_8' => ?_)
  refine a6 ?_
  refine wm ?_
  refine WL.call (A := []) ajq rfl (ah0) rfl trivial rfl rfl ?_
  refine wm ?_
  refine wv (OV.extract 0 rfl rfl) ?_
  refine wv (OV.extract 1 rfl rfl) ?_
  refine WL.make (MV.alloc adr) rfl rfl rfl (fun b => ?_)
  refine WL.storeW (vs := arr 256 (fun j => zB (aa0 j))) 0 rfl rfl rfl rfl (o9 _ _) ad1 ((o9 _ _).trans (o9 _ _).symm) (aip _ _ (fun _ => rfl)) rfl ?_
  refine wA ?_
  refine WL.nil ?_
  refine kg (hK_8' [(0, st s), (1, st ([48, 49, 50, 51, 52, 53, 54, 55, 56, 57] : List UInt8)), (5, zP b), (6, zB true)] _ ?_)
  refine a7 (fun _ hK_9' => ?_)
  refine a6 ?_
  refine wm ?_
  refine WL.nil ?_
  refine kg (hK_9' [(0, st s), (1, st ([48, 49, 50, 51, 52, 53, 54, 55, 56, 57] : List UInt8)), (5, zP b), (34, zB true)] _ ?_)
  refine j2 rfl ?_
  refine a7 (fun _ hK_10' => ?_)
  refine a6 ?_
  refine wm ?_
  obtain ⟨o_1', h⟩ := h
  refine WL.call (A := []) ajd rfl (adl aa0 b s o_1') rfl ⟨.inl ⟨0, rfl⟩, trivial⟩ rfl rfl ?_
  obtain ⟨o_2', h⟩ := h
  refine WL.call (A := []) ai3 rfl (aeu aa0 b (m0 aa0 s) o_2') rfl ⟨.inl ⟨0, rfl⟩, trivial⟩ rfl rfl ?_
  refine wA ?_
  refine WL.nil ?_
  refine kg (hK_10' [(4, st (n7 aa0 (m0 aa0 s)))] _ ?_)
  refine e7 ?_
  exact hE.ret [] rfl rfl (.inl ⟨_, h, rfl⟩) (j6.of1 rfl (RV.tmp rfl))
def aay (s : Bs) : Bs := n7 aa0 (m0 aa0 s)
theorem ajc (s : Bs) (h : s.length ≤ 140737488355328) : i7 Tryd.prog 31 [st s, st [48, 49, 50, 51, 52, 53, 54, 55, 56, 57]] [] [] (Ret (st (aay s)) []) := by
 refine i7.one (alx s (fun v => v = aay s) ?_)
 unfold agc
 cases s with
 | nil => rw [if_pos (by simp)]; rfl
 | cons c r =>
  rw [if_neg (by simp)]
  refine ⟨h, ?_, rfl⟩
  have h1 : (m0 aa0 (c :: r)).length ≤ (c :: r).length := by
   unfold m0
   rw [List.length_reverse]
   exact Nat.le_trans (aln _ _) (by rw [List.length_reverse]; exact Nat.le_refl _)
  omega
theorem af1 (p : UInt8 → Bool) : ∀ l : Bs, l.dropWhile p = [] ↔ ∀ x ∈ l, p x = true
 | [] => by simp
 | c :: r => by
  rw [List.dropWhile_cons]
  cases hc : p c with
  | true => simp [af1 p r, hc]
  | false => simp [hc]
theorem ait (p : UInt8 → Bool) : ∀ (l : Bs) {c : UInt8} {r : Bs}, l.dropWhile p = c :: r → p c = false
 | [], _, _, h => by cases h
 | a :: l, c, r, h => by
  rw [List.dropWhile_cons] at h
  cases ha : p a with
  | true => rw [ha] at h; exact ait p l h
  | false => rw [ha] at h; cases h; exact ha
theorem aja (s : Bs) : aay s = [] ↔ s.all aax = true := by
 have hd : ∀ c : UInt8, aa0 c.toNat = aax c := fun c => rfl
 rw [List.all_eq_true]
 unfold aay n7 m0
 rw [af1]
 constructor
 ·intro h
  cases hu : s.reverse.dropWhile (fun c => aa0 c.toNat) with
  | nil =>
   intro x hx
   have := (af1 _ _).1 hu x (by simpa using hx)
   exact this
  | cons c r =>
   rw [hu] at h
   have h1 := h c (by simp)
   rw [ait _ _ hu] at h1; cases h1
 ·intro h x hx
  have : s.reverse.dropWhile (fun c => aa0 c.toNat) = [] := (af1 _ _).2 fun y hy => h y (by simpa using hy)
  rw [this] at hx; cases hx
def j5 (s : Bs) : Bool := decide (s ≠ []) && decide (s.length ≤ 9) && s.all aax
def agx (a : Nat) (s : Bs) : Nat := s.foldl (fun a c => a * 10 + (c.toNat - 48)) a
def adz (s : Bs) : Int := ((agx 0 s : Nat) : Int)
def g8 (s : Bs) : Int := if j5 s = true then adz s else 0
theorem ac3 : ∀ (s : Bs) (a : Nat), s.all aax = true → Lib.decFrom a s = some (agx a s)
 | [], _, _ => rfl
 | c :: r, a, h => by
  simp only [List.all_cons, Bool.and_eq_true] at h
  have hc := h.1
  unfold aax at hc
  simp only [Bool.and_eq_true, decide_eq_true_eq] at hc
  unfold Lib.decFrom Lib.digitVal
  rw [if_pos hc]
  exact ac3 r _ h.2
theorem agy : ∀ (s : Bs) (a k : Nat), s.all aax = true → a < 10 ^ k → agx a s < 10 ^ (k + s.length)
 | [], _, _, _, h => h
 | c :: r, a, k, h, ha => by
  simp only [List.all_cons, Bool.and_eq_true] at h
  have hc := h.1
  unfold aax at hc
  simp only [Bool.and_eq_true, decide_eq_true_eq] at hc
  have := agy r (a * 10 + (c.toNat - 48)) (k + 1) h.2 (by rw [Nat.pow_succ]; omega)
  rw [List.length_cons, show k + (r.length + 1) = k + 1 + r.length by omega]
  exact this
theorem al1 {s : Bs} (h : j5 s = true) : 0 ≤ adz s ∧ adz s < 1000000000 := by
 unfold j5 at h
 simp only [Bool.and_eq_true, decide_eq_true_eq] at h
 have h1 := agy s 0 0 h.2 (by decide)
 have h2 : 10 ^ (0 + s.length) ≤ 10 ^ 9 := Nat.pow_le_pow_right (by decide) (by omega)
 unfold adz
 omega
theorem als (s : Bs) : 0 ≤ g8 s ∧ g8 s < 1000000000 := by
 unfold g8
 split
 ·rename_i h; exact al1 h
 ·omega
theorem akh {s : Bs} (h : j5 s = true) : Lib.atoi s = some (adz s) := by
 unfold j5 at h
 simp only [Bool.and_eq_true, decide_eq_true_eq] at h
 cases s with
 | nil => exact absurd rfl h.1.1
 | cons c r =>
  have hc := h.2
  simp only [List.all_cons, Bool.and_eq_true] at hc
  have hc := hc.1
  unfold aax at hc
  simp only [Bool.and_eq_true, decide_eq_true_eq] at hc
  have n1 : (c == 45) = false := by
   rw [beq_eq_false_iff_ne]; rintro rfl; revert hc; decide
  have n2 : (c == 43) = false := by
   rw [beq_eq_false_iff_ne]; rintro rfl; revert hc; decide
  unfold Lib.atoi Lib.decNat
  dsimp only
  rw [n1, n2]
  simp only [List.isEmpty_cons, Bool.false_eq_true, if_false]
  rw [ac3 _ _ h.2]
  rfl
theorem ai7 (s : Bs) (h : j5 s = true) : i7 Tryd.prog 32 [st s] [] [] (Ret (.tuple #[.int .i64 (adz s), .nilIface]) []) := by
 have hl : s.length ≤ 9 := by
  unfold j5 at h
  simp only [Bool.and_eq_true, decide_eq_true_eq] at h
  exact h.1.2
 exact i7.ofPure fun w => (Tryd.strconv_Atoi ⟨s.toArray⟩ (adz s) (by simp [ByteArray.size]; omega) (by simpa using akh h) w).mono fun _ _ ⟨h1, t, h2⟩ => by subst h2; exact ⟨h1, Lib.bytesWorld_below _ _ _⟩
def acy (s : List UInt8) (K : Int → Bool → Prop) : Prop :=
 (((decide (s = [])) || (decide (9 < (s.length : Int)))) = false → (s.length ≤ 140737488355328)) ∧
 (if (((decide (s = [])) || (decide (9 < (s.length : Int)))) || (!decide (aay s = []))) = true then
  K 0 false
 else
  (j5 s = true) ∧
  K (adz s) true)
theorem ajp  (s : List UInt8) (K : Int → Bool → Prop) (h : acy s K) :
  i7 Tryd.prog 27 [st s] [] [] (fun o => (∃ (v : Int) (v_1' : Bool), K v v_1' ∧ o = .ret (Value.tuple #[zI v, zB v_1']) []) ∨ (False)) := by
 unfold acy at h
 refine d8 (n := 24) (L0 := [(0, st s)]) Tryd.func27 rfl rfl rfl rfl (fun w0 M Q hE => ?_)
 refine a7 (fun _ hK => ?_)
 refine a6 ?_
 refine wA ?_
 refine wA ?_
 refine WL.nil ?_
 refine kg (hK [(0, st s)] _ ?_)
 refine a7 (fun _ hK_1' => ?_)
 refine a7 (fun _ hK_2' => ?_)
 refine a6 ?_
 refine wm ?_
 refine wv (OV.eqlS rfl rfl) ?_
 refine wm ?_
 refine WL.cut 4 [(0, st s), (12, zB ((decide (s = [])) || (decide (9 < (s.length : Int)))))] ?_ (fun K0_3' hK_3' => ?_)
 rotate_left
 ·refine WL.split (decide (s = [])) (fun hb => ?_) (fun hb => ?_)
  ·refine WL.set 8 rfl (congrArg zB hb) ?_
   refine wk ?_
   refine wk ?_
   refine wk ?_
   refine wv (OV.pickT rfl rfl) ?_
   refine WL.set 12 rfl (oT (v := decide (9 < (s.length : Int))) hb) ?_
   exact WL.end_ (kg hK_3')
  ·refine WL.set 8 rfl (congrArg zB hb) ?_
   refine wm ?_
   refine wv (OV.len rfl d5) ?_
   refine wv (OV.gtr rfl rfl) ?_
   refine wv (OV.pickF rfl rfl) ?_
   refine WL.set 12 rfl (oF (v := decide (9 < (s.length : Int))) hb) ?_
   exact WL.end_ (kg hK_3')
 refine wm ?_
 obtain ⟨o_2', h⟩ := h
 refine WL.cut 4 [(0, st s), (17, zB (((decide (s = [])) || (decide (9 < (s.length : Int)))) || (!decide (aay s = []))))] ?_ (fun K0_4' hK_4' => ?_)
 rotate_left
 ·refine WL.split ((decide (s = [])) || (decide (9 < (s.length : Int)))) (fun hb => ?_) (fun hb => ?_)
  ·refine WL.set 13 rfl (congrArg zB hb) ?_
   refine wk ?_
   refine wk ?_
   refine wk ?_
   refine wv (OV.pickT rfl rfl) ?_
   refine WL.set 17 rfl (oT (v := !decide (aay s = [])) hb) ?_
   exact WL.end_ (kg hK_4')
  ·have o_1' := o_2' hb
   refine WL.set 13 rfl (congrArg zB hb) ?_
   refine wm ?_
   refine WL.call (A := []) aji rfl (ajc s o_1') rfl trivial rfl rfl ?_
   refine wv (OV.neqS rfl rfl) ?_
   refine wv (OV.pickF rfl rfl) ?_
   refine WL.set 17 rfl (oF (v := !decide (aay s = [])) hb) ?_
   exact WL.end_ (kg hK_4')
 refine WL.nil ?_
 refine kg (hK_2' [(0, st s), (17, zB (((decide (s = [])) || (decide (9 < (s.length : Int)))) || (!decide (aay s = []))))] _ ?_)
 refine d4 (b := ((decide (s = [])) || (decide (9 < (s.length : Int)))) || (!decide (aay s = []))) rfl (fun hb => ?_) (fun hb => ?_)
 ·replace h := k9 h hb
  refine a7 (fun _ hK_5' => ?_)
  refine a6 ?_
  refine wA ?_
  refine wA ?_
  refine WL.nil ?_
  refine kg (hK_5' [(2, zI 0), (3, zB false)] _ ?_)
  refine e7 ?_
  exact hE.ret [] rfl rfl (.inl ⟨_, _, h, rfl⟩) (j6.of2 rfl (RV.tmp rfl) (RV.tmp rfl))
 ·replace h := l6 h hb
  refine b8 ?_
  refine kg (hK_1' [(0, st s)] _ ?_)
  refine a7 (fun _ hK_6' => ?_)
  refine a6 ?_
  refine wm ?_
  obtain ⟨o_3', h⟩ := h
  refine WL.call (A := []) ai2 rfl (ai7 s o_3') rfl trivial rfl rfl ?_
  refine wm ?_
  refine wv (OV.extract 0 rfl rfl) ?_
  refine wv (OV.extract 1 rfl rfl) ?_
  refine wA ?_
  refine wA ?_
  refine WL.nil ?_
  refine kg (hK_6' [(4, zI (adz s))] _ ?_)
  refine a7 (fun _ hK_7' => ?_)
  refine a6 ?_
  refine wm ?_
  refine wA ?_
  refine wA ?_
  refine WL.nil ?_
  refine kg (hK_7' [(2, zI (adz s)), (3, zB true)] _ ?_)
  refine e7 ?_
  exact hE.ret [] rfl rfl (.inl ⟨_, _, h, rfl⟩) (j6.of2 rfl (RV.tmp rfl) (RV.tmp rfl))
theorem y9 (s : Bs) (h : s.length ≤ 140737488355328) : i7 Tryd.prog 27 [st s] [] [] (Ret (.tuple #[.int .i64 (g8 s), .bool (j5 s)]) []) := by
 refine (ajp s (fun n b => n = g8 s ∧ b = j5 s) ?_).weak ?_
 ·unfold acy
  refine ⟨fun _ => h, ?_⟩
  have key : (((decide (s = [])) || (decide (9 < (s.length : Int)))) || (!decide (aay s = []))) = !j5 s := by
   have ht : decide (aay s = []) = s.all aax := by
    rw [Bool.eq_iff_iff, decide_eq_true_eq]; exact aja s
   rw [ht]
   unfold j5
   by_cases h0 : s = []
   ·subst h0; rfl
   ·by_cases h1 : s.length ≤ 9
    ·simp [h0, h1]; omega
    ·simp [h0, h1]; omega
  rw [key]
  cases hb : j5 s with
  | true => rw [if_neg (by simp)]; exact ⟨rfl, by unfold g8; rw [if_pos hb], rfl⟩
  | false => rw [if_pos (by simp)]; exact ⟨by unfold g8; rw [hb]; rfl, rfl⟩
 ·rintro o (⟨n, b, ⟨rfl, rfl⟩, rfl⟩ | h)
  ·rfl
  ·cases h
end Go.Proofs.YtgocbiiolmmonaaDoor
