/-
  Merged: SyE, SyTie, TkV, TkS, TkE, TkQ.
-/
import Derived.Test.YtifajndacnfcbaaDoorCards
import Derived.Test.YtifajndacnfcbaaDoorTie
import Derived.OpenShut
import Derived.LaidLaws
import Derived.ChangeArms
import Derived.Deep.DeepHandedRow
import Derived.Deep.DeepWitnessRowRef
import Derived.Test.YtifajndacnfcbaaDoorChecked
import Derived.Test.YtifajndacnfcbaaDoorSb1
namespace Go.Proofs.YtifajndacnfcbaaDoor
open Go Go.RowKit
def ach (v : Value) : List Value := [v]
theorem ah6 (v : Value) : (ach v).length = 1 := rfl
theorem aqk {v : Value} (h : v.oneCell' = true) : ([v].all (·.oneCell')) = true := by simp [h]
mutual
def TV (B : List (Nat × Obj)) : Ex → Value → Prop
 | .name p s, v => v = .iface 71 (.agg [.int .i64 p, st s].toArray)
 | .text p s, v => v = .iface 73 (.agg [.int .i64 p, st s].toArray)
 | .regex p s, v => v = .iface 74 (.agg [.int .i64 p, st s].toArray)
 | .keyed p a, v => ∃ u, TV B a u ∧ v = .iface 76 (.agg [.int .i64 p, u].toArray)
 | .unary p o a, v => ∃ u, TV B a u ∧ v = .iface 78 (.agg [.int .i64 p, st o, u].toArray)
 | .binary p o a b, v => ∃ u1 u2, TV B a u1 ∧ TV B b u2 ∧ v = .iface 80 (.agg [.int .i64 p, st o, u1, u2].toArray)
 | .call p w l, v => ∃ us u b cs, TVL B l us ∧ ab5 u 37 1 us.length (us.flatMap ach) b cs ∧ (b, Obj.cells cs.toArray 37 (0, 0)) ∈ B ∧ v = .iface 83 (.agg [.int .i64 p, st w, u].toArray)
def TVL (B : List (Nat × Obj)) : ExL → List Value → Prop
 | .nil, us => us = []
 | .cons a r, us => ∃ u vs, TV B a u ∧ TVL B r vs ∧ us = u :: vs
end
mutual
theorem TV.more {B B2 : List (Nat × Obj)} (h : ∀ p ∈ B, p ∈ B2) : ∀ (e : Ex) (v : Value), TV B e v → TV B2 e v
 | .name p s, v, hv => hv
 | .text p s, v, hv => hv
 | .regex p s, v, hv => hv
 | .keyed p a, v, hv => by obtain ⟨u, h1, h2⟩ := hv; exact ⟨u, TV.more h a u h1, h2⟩
 | .unary p o a, v, hv => by obtain ⟨u, h1, h2⟩ := hv; exact ⟨u, TV.more h a u h1, h2⟩
 | .binary p o a b, v, hv => by obtain ⟨u1, u2, h1, h2, h3⟩ := hv; exact ⟨u1, u2, TV.more h a u1 h1, TV.more h b u2 h2, h3⟩
 | .call p w l, v, hv => by obtain ⟨us, u, b, cs, h1, h2, h3, h4⟩ := hv; exact ⟨us, u, b, cs, TVL.more h l us h1, h2, h _ h3, h4⟩
theorem TVL.more {B B2 : List (Nat × Obj)} (h : ∀ p ∈ B, p ∈ B2) : ∀ (l : ExL) (us : List Value), TVL B l us → TVL B2 l us
 | .nil, us, hv => hv
 | .cons a r, us, hv => by obtain ⟨u, vs, h1, h2, h3⟩ := hv; exact ⟨u, vs, TV.more h a u h1, TVL.more h r vs h2, h3⟩
end
theorem TV.one {B : List (Nat × Obj)} {e : Ex} {v : Value} (h : TV B e v) : v.oneCell' = true := by
 cases e with
 | name p s => rw [TV] at h; subst h; rfl
 | text p s => rw [TV] at h; subst h; rfl
 | regex p s => rw [TV] at h; subst h; rfl
 | keyed p a => rw [TV] at h; obtain ⟨u, _, rfl⟩ := h; rfl
 | unary p o a => rw [TV] at h; obtain ⟨u, _, rfl⟩ := h; rfl
 | binary p o a b => rw [TV] at h; obtain ⟨u1, u2, _, _, rfl⟩ := h; rfl
 | call p w l => rw [TV] at h; obtain ⟨us, u, b, cs, _, _, _, rfl⟩ := h; rfl
theorem TVL.len {B : List (Nat × Obj)} : ∀ {l : ExL} {us : List Value}, TVL B l us → us.length = l.len
 | .nil, us, h => by rw [TVL] at h; subst h; rfl
 | .cons a r, us, h => by rw [TVL] at h; obtain ⟨u, vs, _, h2, rfl⟩ := h; rw [List.length_cons, h2.len]; rfl
theorem TVL.snoc {B : List (Nat × Obj)} {b : Ex} {v : Value} (hb : TV B b v) : ∀ {l : ExL} {us : List Value}, TVL B l us → TVL B (l.snoc b) (us ++ [v])
 | .nil, us, h => by rw [TVL] at h; subst h; exact ⟨v, [], hb, rfl, rfl⟩
 | .cons a r, us, h => by rw [TVL] at h; obtain ⟨u, vs, h1, h2, rfl⟩ := h; exact ⟨u, vs ++ [v], h1, h2.snoc hb, rfl⟩
def acy (s : Bs) : Prop := s = [62, 62] ∨ ∃ c, s = [c]
def asn (ts : List Tok) : Prop := ∀ k, (a8 ts k).1 = 4 → acy (a8 ts k).2.2
def POK (ts : List Tok) (k : Nat) (o : Int) : Prop := k < ts.length ∧ (0 ≤ o ∧ o ≤ 64) ∧ alt ts ∧ asn ts ∧ ts.length ≤ 10000
theorem POK.next {ts : List Tok} {k : Nat} {o : Int} (h : POK ts k o) (hk : (a8 ts k).1 ≠ 0) : k + 1 < ts.length := by
 obtain ⟨h1, _, ⟨_, h2⟩, _⟩ := h
 rcases Nat.lt_or_ge (k + 1) ts.length with g | g
 ·exact g
 ·exfalso; apply hk; rw [show k = ts.length - 1 by omega]; exact h2
theorem POK.at {ts : List Tok} {k k2 : Nat} {o : Int} (h : POK ts k o) (hk : k2 < ts.length) : POK ts k2 o := ⟨hk, h.2⟩
theorem POK.with {ts : List Tok} {k k2 : Nat} {o o2 : Int} (h : POK ts k o) (hk : k2 < ts.length) (ho : 0 ≤ o2 ∧ o2 ≤ 64) : POK ts k2 o2 := ⟨hk, ho, h.2.2⟩
def ExR (r : RsX Ex) (B : List (Nat × Obj)) (v : Value) (e : Ex) (k : Nat) (o : Int) (B2 : List (Nat × Obj)) : Prop := r = .ok (e, (k, o)) ∧ TV B2 e v ∧ ∀ p ∈ B, p ∈ B2
def ExP (r : RsX Ex) (_ts : List Tok) (c p : Int) (_k : Nat) (_o : Int) (_B : List (Nat × Obj)) : Prop := r = .error (c, p)
abbrev ab4 (te : TypeId) (fre : Nat × Nat) : List (Nat × Obj) := [(0, .cells [st ([124] : Bs), st ([38, 45] : Bs), st ([62, 62] : Bs), st ([126] : Bs), st ([46] : Bs)].toArray te fre)]
abbrev aau (c p : Int) : Value := .iface 26 (.agg [Value.int .i64 c, Value.int .i64 p, st []].toArray)
abbrev syH (pb : Nat) (wa : Value) (ts : List Tok) (k : Nat) (o : Int) : List HA := [.blk pb (.cells [j5 wa 3 k, Value.int .i64 o].toArray 55 (0, 0)), .row wa 102 3 ts.length (ts.flatMap f9)]
def EAt (te : TypeId) (fre : Nat × Nat) (ts : List Tok) (k : Nat) (l : Int) : Prop :=
 ∀ (pb : Nat) (wa : Value) (o : Int) (B : List (Nat × Obj)), POK ts k o ∧ 0 ≤ l ∧ l ≤ 5 → d8 Tryd.prog 43 [.pointer (some ⟨pb, 0, none⟩), .int .i64 l] (ab4 te fre) (syH pb wa ts k o ++ [pool B])
  (fun out => (∃ v e k2 o2 B2, ExR (sE ts l.toNat (k, o)) B v e k2 o2 B2 ∧ out = .ret v (syH pb wa ts k2 o2 ++ [pool B2])) ∨ (∃ c p k2 o2 B2, ExP (sE ts l.toNat (k, o)) ts c p k2 o2 B2 ∧ out = .pan [{ v := aau c p, recovered := false }] (syH pb wa ts k2 o2 ++ [pool B2])))
def PAt (te : TypeId) (fre : Nat × Nat) (ts : List Tok) (k : Nat) : Prop :=
 ∀ (pb : Nat) (wa : Value) (o : Int) (B : List (Nat × Obj)), POK ts k o → d8 Tryd.prog 66 [.pointer (some ⟨pb, 0, none⟩)] (ab4 te fre) (syH pb wa ts k o ++ [pool B])
  (fun out => (∃ v e k2 o2 B2, ExR (sP ts (k, o)) B v e k2 o2 B2 ∧ out = .ret v (syH pb wa ts k2 o2 ++ [pool B2])) ∨ (∃ c p k2 o2 B2, ExP (sP ts (k, o)) ts c p k2 o2 B2 ∧ out = .pan [{ v := aau c p, recovered := false }] (syH pb wa ts k2 o2 ++ [pool B2])))
def AAt (te : TypeId) (fre : Nat × Nat) (ts : List Tok) (k : Nat) : Prop :=
 ∀ (pb : Nat) (wa : Value) (o : Int) (B : List (Nat × Obj)), POK ts k o → d8 Tryd.prog 76 [.pointer (some ⟨pb, 0, none⟩)] (ab4 te fre) (syH pb wa ts k o ++ [pool B])
  (fun out => (∃ v e k2 o2 B2, ExR (sA ts (k, o)) B v e k2 o2 B2 ∧ out = .ret v (syH pb wa ts k2 o2 ++ [pool B2])) ∨ (∃ c p k2 o2 B2, ExP (sA ts (k, o)) ts c p k2 o2 B2 ∧ out = .pan [{ v := aau c p, recovered := false }] (syH pb wa ts k2 o2 ++ [pool B2])))
def CAt (te : TypeId) (fre : Nat × Nat) (ts : List Tok) (k : Nat) : Prop :=
 ∀ (pb : Nat) (wa : Value) (o : Int) (B : List (Nat × Obj)), (POK ts k o ∧ (a8 ts k).1 = 1 ∧ 0 < d7 (a8 ts k).2.2) → d8 Tryd.prog 79 [.pointer (some ⟨pb, 0, none⟩)] (ab4 te fre) (syH pb wa ts k o ++ [pool B])
  (fun out => (∃ v e k2 o2 B2, ExR (sC ts (k, o)) B v e k2 o2 B2 ∧ out = .ret v (syH pb wa ts k2 o2 ++ [pool B2])) ∨ (∃ c p k2 o2 B2, ExP (sC ts (k, o)) ts c p k2 o2 B2 ∧ out = .pan [{ v := aau c p, recovered := false }] (syH pb wa ts k2 o2 ++ [pool B2])))
end Go.Proofs.YtifajndacnfcbaaDoor
namespace Go.Proofs.YtifajndacnfcbaaDoor
open Go Go.ChangeShapes Go.WideShapes Go.ChangeAt Go.RowKit
set_option maxRecDepth 100000
abbrev aoc : List (String × DataW Unit) := [("loupe/syntax.ranks", Rows.laid_loupe_syntax_ranks)]
theorem alr (W : World) : laidMetH Tryd.prog aoc W = laidMet Tryd.prog aoc W := by kernel_rfl
abbrev agx : List Value := [st ([124] : Bs), st ([38, 45] : Bs), st ([62, 62] : Bs), st ([126] : Bs), st ([46] : Bs)]
section
variable {H : Type} {enc : TypeId × Value → H} {W : World} {base : Nat} {sp : Nat → Bool} {hd : Bool} {fuel : Nat}
theorem aju {cs : List Value} {y : DataW H × List MemPlace} (h : DataW.trod enc Tryd.prog W base sp hd fuel 121 cs = some y) {a b c d e : Bs} (hy : y.1 = .agg [.lit (.string a), .lit (.string b), .lit (.string c), .lit (.string d), .lit (.string e)]) : cs = [st a, st b, st c, st d, st e] := by
 have hc : Tryd.prog.cellsOf 9 = 1 := by kernel_rfl
 obtain ⟨xs, m, _, hx, hn, hl, hfs⟩ := DataW.trod_array Tryd.underlying121 h
 have hl5 : cs.length = 5 := hn.trans (by kernel_rfl)
 match xs, hl, cs, hl5 with
 | [y0, y1, y2, y3, y4], _, [c0, c1, c2, c3, c4], _ =>
  have t0 : DataW.trod enc Tryd.prog W base sp hd m 9 [c0] = some y0 := by
   have h : DataW.trod enc Tryd.prog W base sp hd m 9 (List.take (Tryd.prog.cellsOf 9) (List.drop (0 * Tryd.prog.cellsOf 9) [c0, c1, c2, c3, c4])) = some y0 := hfs 0 (by decide)
   rw [hc] at h; exact h
  have t1 : DataW.trod enc Tryd.prog W base sp hd m 9 [c1] = some y1 := by
   have h : DataW.trod enc Tryd.prog W base sp hd m 9 (List.take (Tryd.prog.cellsOf 9) (List.drop (1 * Tryd.prog.cellsOf 9) [c0, c1, c2, c3, c4])) = some y1 := hfs 1 (by decide)
   rw [hc] at h; exact h
  have t2 : DataW.trod enc Tryd.prog W base sp hd m 9 [c2] = some y2 := by
   have h : DataW.trod enc Tryd.prog W base sp hd m 9 (List.take (Tryd.prog.cellsOf 9) (List.drop (2 * Tryd.prog.cellsOf 9) [c0, c1, c2, c3, c4])) = some y2 := hfs 2 (by decide)
   rw [hc] at h; exact h
  have t3 : DataW.trod enc Tryd.prog W base sp hd m 9 [c3] = some y3 := by
   have h : DataW.trod enc Tryd.prog W base sp hd m 9 (List.take (Tryd.prog.cellsOf 9) (List.drop (3 * Tryd.prog.cellsOf 9) [c0, c1, c2, c3, c4])) = some y3 := hfs 3 (by decide)
   rw [hc] at h; exact h
  have t4 : DataW.trod enc Tryd.prog W base sp hd m 9 [c4] = some y4 := by
   have h : DataW.trod enc Tryd.prog W base sp hd m 9 (List.take (Tryd.prog.cellsOf 9) (List.drop (4 * Tryd.prog.cellsOf 9) [c0, c1, c2, c3, c4])) = some y4 := hfs 4 (by decide)
   rw [hc] at h; exact h
  obtain ⟨s0, q0, rfl, _⟩ := DataW.trod_string Tryd.underlying9 t0
  obtain ⟨s1, q1, rfl, _⟩ := DataW.trod_string Tryd.underlying9 t1
  obtain ⟨s2, q2, rfl, _⟩ := DataW.trod_string Tryd.underlying9 t2
  obtain ⟨s3, q3, rfl, _⟩ := DataW.trod_string Tryd.underlying9 t3
  obtain ⟨s4, q4, rfl, _⟩ := DataW.trod_string Tryd.underlying9 t4
  rw [hx] at hy
  simp only [List.map_cons, List.map_nil, DataW.agg.injEq, List.cons.injEq, DataW.lit.injEq, Lit.string.injEq, and_true] at hy
  obtain ⟨rfl, rfl, rfl, rfl, rfl⟩ := hy
  simp only [List.cons.injEq, and_true] at q0 q1 q2 q3 q4
  subst q0 q1 q2 q3 q4
  rfl
theorem am7 {cs : List Value} {p : List MemPlace} (h : DataW.trod enc Tryd.prog W base sp hd fuel 121 cs = some (Rows.laid_loupe_syntax_ranks, p)) : cs = agx := aju h rfl
end
theorem ajo : Tryd.prog.globalNamed "loupe/syntax.ranks" = some 0 := by kernel_rfl
theorem atd : (Tryd.prog.globals[0]?).map (·.type) = some 121 := by kernel_rfl
theorem auo {W : World} {r : List (String × DataW Unit)} (h : laidMet Tryd.prog (("loupe/syntax.ranks", Rows.laid_loupe_syntax_ranks) :: r) W) : W.var? Tryd.prog "loupe/syntax.ranks" = some agx.toArray := by
 obtain ⟨ps, ⟨g, t, cs, fuel, p, q, hg, ht, hvar, hd, _, _⟩, _⟩ := h
 obtain rfl := Option.some.inj (ajo.symm.trans hg)
 obtain rfl := Option.some.inj (atd.symm.trans ht)
 rw [hvar]
 obtain ⟨l⟩ := cs
 have := am7 hd
 rw [← this]
theorem ams {W : World} (h : laidMetH Tryd.prog aoc W) : ∃ te fre, W.heap[0]? = some (.cells agx.toArray te fre) := by
 rw [alr] at h
 have h2 := auo h
 unfold World.var? at h2
 rw [ajo] at h2
 simp only [Option.bind_some] at h2
 split at h2
 ·rename_i cs t fr hg
  obtain rfl := Option.some.inj h2
  exact ⟨t, fr, hg⟩
 ·cases h2
noncomputable def auu (g : Nat) (c : Array Value) (w : World) : World := { w with heap := w.heap.modify g fun
   | .cells _ t frozen => .cells c t frozen
   | o => o }
noncomputable def af1 (os : Os) : World := auu 0 agx.toArray (World.holding Tryd.prog os ⟨#[], #[], []⟩)
theorem ame {f : FuncId} {vs : List Value} {v : Value} {W : World} (hL : laidMetH Tryd.prog aoc W) (h : ∀ te fre, d8 Tryd.prog f vs (ab4 te fre) [] (Ret v [])) :
  Calls Tryd.prog f vs.toArray W fun e W' => e = .returned v ∧ Below W.heap.size W W' := by
 obtain ⟨te, fre, he⟩ := ams hL
 refine (h te fre W [] rfl List.nodup_nil (fun k hk => by cases hk) (fun p hp => by obtain rfl := List.mem_singleton.1 hp; exact ⟨he, fun hx => by cases hx⟩)).mono ?_
 rintro en w' ⟨H', hS, hh⟩
 rcases hS with ⟨r, rfl, hS⟩ | ⟨c, rfl, hS⟩
 ·cases hS; exact ⟨rfl, hh.toBelow⟩
 ·cases hS
end Go.Proofs.YtifajndacnfcbaaDoor
namespace Go.Proofs.YtifajndacnfcbaaDoor
open Go Go.RowKit
abbrev zP (b : Nat) : Value := Value.pointer (some ⟨b, 0, none⟩)
abbrev zI (i : Int) : Value := Value.int .i64 i
abbrev zU (i : Int) : Value := Value.int .u8 i
abbrev zB (b : Bool) : Value := Value.bool b
theorem wv {P : Program} {ops : Array Oper} {Q : Exit → Act → World → Prop} {C : Cx} {L : Sl} {H : List HA} {rest : List Oper} {o : Oper} {v : Value} {d : Nat} (hv : OV P C L H o v) (h : WL P ops Q C ((d, v) :: L) H rest) (hw : l5 ops L o = some true := by exact rfl) (hd : o.dst = some d := by exact rfl) (hn : Nat.blt d C.n = true := by exact rfl) : WL P ops Q C L H (o :: rest) := WL.val hv hw hd hn h
theorem kg {C : Cx} {L L' : Sl} {H : List HA} {K : Act → World → Prop} (h : KX K C L' H) (hs : Sub L L' := by repeat (first | exact trivial | refine ⟨rfl, ?_⟩)) : KX K C L H := KX.go h hs
theorem kh {C : Cx} {L L' : Sl} {H H' : List HA} {K : Act → World → Prop} (h : KX K C L' H') (idx : List Nat) (hs : Sub L L' := by repeat (first | exact trivial | refine ⟨rfl, ?_⟩)) (hi : n3 idx = true := by exact rfl) (he : sel H idx = H' := by exact rfl) : KX K C L H := KX.goH h hs idx hi he
theorem wk {P : Program} {ops : Array Oper} {Q : Exit → Act → World → Prop} {C : Cx} {L : Sl} {H : List HA} {rest : List Oper} {o : Oper} {d : Nat} (h : WL P ops Q C ((d, undef) :: L) H rest) (hw : l5 ops L o = some false := by exact rfl) (hd : o.dst = some d := by exact rfl) (hn : Nat.blt d C.n = true := by exact rfl) : WL P ops Q C L H (o :: rest) := WL.skip hw hd hn h
theorem wm {P : Program} {ops : Array Oper} {Q : Exit → Act → World → Prop} {C : Cx} {L : Sl} {H : List HA} {rest : List Oper} {x : Operand} {ty : TypeId} {p : String} {e : Array Edge} {g : Option (Nat × Bool)} {v : Value} {d : Nat} (h : WL P ops Q C ((d, v) :: L) H rest) (hx : ev L x = some v := by exact rfl) (hw : l5 ops L ⟨some d, .move x, ty, p, e, g⟩ = some true := by exact rfl) (hn : Nat.blt d C.n = true := by exact rfl) : WL P ops Q C L H (⟨some d, .move x, ty, p, e, g⟩ :: rest) := WL.val (OV.move hx) hw rfl hn h
theorem wA {P : Program} {ops : Array Oper} {Q : Exit → Act → World → Prop} {C : Cx} {L : Sl} {H : List HA} {rest : List Oper} {x : Operand} {ty : TypeId} {p : String} {e : Array Edge} {g : Option (Nat × Bool)} {v : Value} {d : Nat} (h : WL P ops Q C ((d, v) :: L) H rest) (hx : ev L x = some v := by exact rfl) (hw : l5 ops L ⟨some d, .assign x, ty, p, e, g⟩ = some true := by exact rfl) (hn : Nat.blt d C.n = true := by exact rfl) : WL P ops Q C L H (⟨some d, .assign x, ty, p, e, g⟩ :: rest) := WL.val (OV.assign hx) hw rfl hn h
theorem fv {P : Program} {ops : Array Oper} {T : World → j8 → Act → Prop} {C : Cx} {L : FSl} {H : List HA} {zl : List (Nat × Obj)} {k : Nat} {rest : List Oper} {o : Oper} {v : Value} {d : Nat} (hv : ∀ β, OV P C (L β) H o v) (h : FL P ops T C (fun β => (d, v) :: L β) H zl (k + 1) rest) (hz : q9 zl k = none := by exact rfl) (hw : ∀ β, l5 ops (L β) o = some true := by exact fun _ => rfl) (hd : o.dst = some d := by exact rfl) (hn : Nat.blt d C.n = true := by exact rfl) : FL P ops T C L H zl k (o :: rest) := FL.val hv hz hw hd hn h
end Go.Proofs.YtifajndacnfcbaaDoor
set_option maxRecDepth 100000
namespace Go.Proofs.YtifajndacnfcbaaDoor
open Go Go.RowKit
theorem b7 : e9 Tryd.prog 100 1 = some 1 := by kernel_rfl
theorem b9 : aad Tryd.prog 3 = true := by kernel_rfl
theorem f8 : e9 Tryd.prog 100 0 = some 0 := by kernel_rfl
theorem c8 : aad Tryd.prog 9 = true := by kernel_rfl
theorem d5 : ajw Tryd.prog 9 = true := by kernel_rfl
theorem h8 : Tryd.prog.follows .mixedOrders = true := by kernel_rfl
theorem aed : e9 Tryd.prog 100 3 = some 3 := by kernel_rfl
theorem n4 : m5 Tryd.prog 26 3 = true := by kernel_rfl
theorem abq : e9 Tryd.prog 100 2 = some 2 := by kernel_rfl
theorem abr : aad Tryd.prog 50 = true := by kernel_rfl
theorem ad6 : slB Tryd.prog 50 102 3 = true := by kernel_rfl
theorem aku : agm Tryd.prog 102 = some ([zI 0, zI 0, st []], 3, 32) := by kernel_rfl
theorem ag4 : m5 Tryd.prog 50 1 = true := by kernel_rfl
def afj (c : Int) (K : Bool → Prop) : Prop :=
 K (((decide (c = 95)) || ((decide (97 ≤ c)) && (decide (c ≤ 122)))) || ((decide (65 ≤ c)) && (decide (c ≤ 90))))
theorem ajt  (c : Int) (K : Bool → Prop) (h : afj c K) :
  d8 Tryd.prog 58 [zU c] [] [] (fun o => (∃ (v : Bool), K v ∧ o = .ret (zB v) []) ∨ (False)) := by
 unfold afj at h
 refine c7 (n := 21) (L0 := [(0, zU c)]) Tryd.func58 rfl rfl rfl rfl (fun w0 M Q hE => ?_)
 refine a7 (fun _ hK => ?_)
 refine a6 ?_
 refine wA ?_
 refine WL.nil ?_
 refine kg (hK [(0, zU c)] _ ?_)
 refine a7 (fun _ hK_1' => ?_)
 refine a6 ?_
 refine wm ?_
 refine wv (OV.eql rfl rfl) ?_
 refine wm ?_
 refine WL.cut 7 [(0, zU c), (12, zB ((decide (c = 95)) || ((decide (97 ≤ c)) && (decide (c ≤ 122)))))] ?_ (fun K0_3' hK_3' => ?_)
 rotate_left
 ·refine WL.split (decide (c = 95)) (fun hb => ?_) (fun hb => ?_)
  ·refine WL.set 5 rfl (congrArg zB hb) ?_
   refine wk ?_
   refine wk ?_
   refine wk ?_
   refine wk ?_
   refine wk ?_
   refine wk ?_
   refine wv (OV.pickT rfl rfl) ?_
   refine WL.set 12 rfl (oT (v := (decide (97 ≤ c)) && (decide (c ≤ 122))) hb) ?_
   exact WL.end_ (kg hK_3')
  ·refine WL.set 5 rfl (congrArg zB hb) ?_
   refine wm ?_
   refine wv (OV.geq rfl rfl) ?_
   refine wm ?_
   refine WL.cut 3 [(0, zU c), (5, zB false), (11, zB ((decide (97 ≤ c)) && (decide (c ≤ 122))))] ?_ (fun K0_2' hK_2' => ?_)
   rotate_left
   ·refine WL.split (decide (97 ≤ c)) (fun hb => ?_) (fun hb => ?_)
    ·refine WL.set 8 rfl (congrArg zB hb) ?_
     refine wm ?_
     refine wv (OV.leq rfl rfl) ?_
     refine wv (OV.pickT rfl rfl) ?_
     refine WL.set 11 rfl (bT (v := decide (c ≤ 122)) hb) ?_
     exact WL.end_ (kg hK_2')
    ·refine WL.set 8 rfl (congrArg zB hb) ?_
     refine wk ?_
     refine wk ?_
     refine wv (OV.pickF rfl rfl) ?_
     refine WL.set 11 rfl (bF (v := decide (c ≤ 122)) hb) ?_
     exact WL.end_ (kg hK_2')
   refine wv (OV.pickF rfl rfl) ?_
   refine WL.set 12 rfl (oF (v := (decide (97 ≤ c)) && (decide (c ≤ 122))) hb) ?_
   exact WL.end_ (kg hK_3')
 refine wm ?_
 refine WL.cut 7 [(20, zB (((decide (c = 95)) || ((decide (97 ≤ c)) && (decide (c ≤ 122)))) || ((decide (65 ≤ c)) && (decide (c ≤ 90)))))] ?_ (fun K0_5' hK_5' => ?_)
 rotate_left
 ·refine WL.split ((decide (c = 95)) || ((decide (97 ≤ c)) && (decide (c ≤ 122)))) (fun hb => ?_) (fun hb => ?_)
  ·refine WL.set 13 rfl (congrArg zB hb) ?_
   refine wk ?_
   refine wk ?_
   refine wk ?_
   refine wk ?_
   refine wk ?_
   refine wk ?_
   refine wv (OV.pickT rfl rfl) ?_
   refine WL.set 20 rfl (oT (v := (decide (65 ≤ c)) && (decide (c ≤ 90))) hb) ?_
   exact WL.end_ (kg hK_5')
  ·refine WL.set 13 rfl (congrArg zB hb) ?_
   refine wm ?_
   refine wv (OV.geq rfl rfl) ?_
   refine wm ?_
   refine WL.cut 3 [(13, zB false), (19, zB ((decide (65 ≤ c)) && (decide (c ≤ 90))))] ?_ (fun K0_4' hK_4' => ?_)
   rotate_left
   ·refine WL.split (decide (65 ≤ c)) (fun hb => ?_) (fun hb => ?_)
    ·refine WL.set 16 rfl (congrArg zB hb) ?_
     refine wm ?_
     refine wv (OV.leq rfl rfl) ?_
     refine wv (OV.pickT rfl rfl) ?_
     refine WL.set 19 rfl (bT (v := decide (c ≤ 90)) hb) ?_
     exact WL.end_ (kg hK_4')
    ·refine WL.set 16 rfl (congrArg zB hb) ?_
     refine wk ?_
     refine wk ?_
     refine wv (OV.pickF rfl rfl) ?_
     refine WL.set 19 rfl (bF (v := decide (c ≤ 90)) hb) ?_
     exact WL.end_ (kg hK_4')
   refine wv (OV.pickF rfl rfl) ?_
   refine WL.set 20 rfl (oF (v := (decide (65 ≤ c)) && (decide (c ≤ 90))) hb) ?_
   exact WL.end_ (kg hK_5')
 refine wA ?_
 refine WL.nil ?_
 refine kg (hK_1' [(2, zB (((decide (c = 95)) || ((decide (97 ≤ c)) && (decide (c ≤ 122)))) || ((decide (65 ≤ c)) && (decide (c ≤ 90)))))] _ ?_)
 refine c9 ?_
 exact hE.ret [] rfl rfl (.inl ⟨_, h, rfl⟩) (e7.of1 rfl (RV.tmp rfl))
def ago (c : Int) (K : Bool → Prop) : Prop :=
 K ((decide (48 ≤ c)) && (decide (c ≤ 57)))
theorem alo  (c : Int) (K : Bool → Prop) (h : ago c K) :
  d8 Tryd.prog 59 [zU c] [] [] (fun o => (∃ (v : Bool), K v ∧ o = .ret (zB v) []) ∨ (False)) := by
 unfold ago at h
 refine c7 (n := 9) (L0 := [(0, zU c)]) Tryd.func59 rfl rfl rfl rfl (fun w0 M Q hE => ?_)
 refine a7 (fun _ hK => ?_)
 refine a6 ?_
 refine wA ?_
 refine WL.nil ?_
 refine kg (hK [(0, zU c)] _ ?_)
 refine a7 (fun _ hK_1' => ?_)
 refine a6 ?_
 refine wm ?_
 refine wv (OV.geq rfl rfl) ?_
 refine wm ?_
 refine WL.cut 3 [(8, zB ((decide (48 ≤ c)) && (decide (c ≤ 57))))] ?_ (fun K0_2' hK_2' => ?_)
 rotate_left
 ·refine WL.split (decide (48 ≤ c)) (fun hb => ?_) (fun hb => ?_)
  ·refine WL.set 5 rfl (congrArg zB hb) ?_
   refine wm ?_
   refine wv (OV.leq rfl rfl) ?_
   refine wv (OV.pickT rfl rfl) ?_
   refine WL.set 8 rfl (bT (v := decide (c ≤ 57)) hb) ?_
   exact WL.end_ (kg hK_2')
  ·refine WL.set 5 rfl (congrArg zB hb) ?_
   refine wk ?_
   refine wk ?_
   refine wv (OV.pickF rfl rfl) ?_
   refine WL.set 8 rfl (bF (v := decide (c ≤ 57)) hb) ?_
   exact WL.end_ (kg hK_2')
 refine wA ?_
 refine WL.nil ?_
 refine kg (hK_1' [(2, zB ((decide (48 ≤ c)) && (decide (c ≤ 57))))] _ ?_)
 refine c9 ?_
 exact hE.ret [] rfl rfl (.inl ⟨_, h, rfl⟩) (e7.of1 rfl (RV.tmp rfl))
def adr (c : Int) (K : Bool → Prop) : Prop :=
 K ((decide (32 ≤ c)) && (decide (c ≤ 126)))
theorem agr  (c : Int) (K : Bool → Prop) (h : adr c K) :
  d8 Tryd.prog 72 [zU c] [] [] (fun o => (∃ (v : Bool), K v ∧ o = .ret (zB v) []) ∨ (False)) := by
 unfold adr at h
 refine c7 (n := 9) (L0 := [(0, zU c)]) Tryd.func72 rfl rfl rfl rfl (fun w0 M Q hE => ?_)
 refine a7 (fun _ hK => ?_)
 refine a6 ?_
 refine wA ?_
 refine WL.nil ?_
 refine kg (hK [(0, zU c)] _ ?_)
 refine a7 (fun _ hK_1' => ?_)
 refine a6 ?_
 refine wm ?_
 refine wv (OV.geq rfl rfl) ?_
 refine wm ?_
 refine WL.cut 3 [(8, zB ((decide (32 ≤ c)) && (decide (c ≤ 126))))] ?_ (fun K0_2' hK_2' => ?_)
 rotate_left
 ·refine WL.split (decide (32 ≤ c)) (fun hb => ?_) (fun hb => ?_)
  ·refine WL.set 5 rfl (congrArg zB hb) ?_
   refine wm ?_
   refine wv (OV.leq rfl rfl) ?_
   refine wv (OV.pickT rfl rfl) ?_
   refine WL.set 8 rfl (bT (v := decide (c ≤ 126)) hb) ?_
   exact WL.end_ (kg hK_2')
  ·refine WL.set 5 rfl (congrArg zB hb) ?_
   refine wk ?_
   refine wk ?_
   refine wv (OV.pickF rfl rfl) ?_
   refine WL.set 8 rfl (bF (v := decide (c ≤ 126)) hb) ?_
   exact WL.end_ (kg hK_2')
 refine wA ?_
 refine WL.nil ?_
 refine kg (hK_1' [(2, zB ((decide (32 ≤ c)) && (decide (c ≤ 126))))] _ ?_)
 refine c9 ?_
 exact hE.ret [] rfl rfl (.inl ⟨_, h, rfl⟩) (e7.of1 rfl (RV.tmp rfl))
def alk (s_0 : List UInt8) (s_1 : Int) (_ : Value) (_ : Int) (_ : Int) (_ : List UInt8) (K : Bool → Prop) : Prop :=
 K (decide ((s_0.length : Int) ≤ s_1))
theorem aq9 (b : Nat) (s_0 : List UInt8) (s_1 : Int) (s_2 : Value) (s_3 : Int) (s_4 : Int) (s_5 : List UInt8) (K : Bool → Prop) (h : alk s_0 s_1 s_2 s_3 s_4 s_5 K) :
  d8 Tryd.prog 35 [zP b] [(b, .cells [st s_0, zI s_1, s_2, zI s_3, zI s_4, st s_5].toArray 100 (0, 0))] [] (fun o => (∃ (v : Bool), K v ∧ o = .ret (zB v) []) ∨ (False)) := by
 unfold alk at h
 refine c7 (n := 13) (L0 := [(0, zP b)]) Tryd.func35 rfl rfl rfl rfl (fun w0 M Q hE => ?_)
 refine a7 (fun _ hK => ?_)
 refine a6 ?_
 refine wA ?_
 refine WL.nil ?_
 refine kg (hK [(0, zP b)] _ ?_)
 refine a7 (fun _ hK_1' => ?_)
 refine m0 9 [] h8 (by kernel_rfl) rfl (fun T hT => ?_)
 refine fv (fun _ => OV.move rfl) ?_
 refine fv (fun _ => OV.nilCheck rfl) ?_
 refine fv (fun _ => OV.fieldAddr0 rfl b7) ?_
 refine fv (fun _ => OV.load rfl (At.ro 0 rfl) rfl b9) ?_
 refine fv (fun _ => OV.move rfl) ?_
 refine fv (fun _ => OV.nilCheck rfl) ?_
 refine fv (fun _ => OV.fieldAddr0 rfl f8) ?_
 refine fv (fun _ => OV.load rfl (At.ro 0 rfl) rfl c8) ?_
 refine fv (fun _ => OV.len rfl d5) ?_
 refine FL.weak (L' := fun γ => [(6, zI s_1), (11, zI (s_0.length : Int))]) (fun γ => ⟨rfl, rfl, trivial⟩) (FL.nil (hT (fun γ => [(6, zI s_1), (11, zI (s_0.length : Int))]) (fun γ => ?_)))
 refine wv (OV.geq rfl rfl) ?_
 refine wA ?_
 refine WL.nil ?_
 refine kg (hK_1' [(2, zB (decide ((s_0.length : Int) ≤ s_1)))] _ ?_)
 refine c9 ?_
 exact hE.ret [] rfl rfl (.inl ⟨_, h, rfl⟩) (e7.of1 rfl (RV.tmp rfl))
def an7 (s_0 : List UInt8) (s_1 : Int) (s_2 : Value) (_ : Int) (_ : Int) (_ : List UInt8) (code : Int) (at0 : Int) (K : Bool → (List UInt8) → Int → Value → Int → Int → (List UInt8) → Prop) : Prop :=
 K false s_0 s_1 s_2 code at0 []
theorem ata (b : Nat) (s_0 : List UInt8) (s_1 : Int) (s_2 : Value) (s_3 : Int) (s_4 : Int) (s_5 : List UInt8) (code : Int) (at0 : Int) (K : Bool → (List UInt8) → Int → Value → Int → Int → (List UInt8) → Prop) (h : an7 s_0 s_1 s_2 s_3 s_4 s_5 code at0 K) :
  d8 Tryd.prog 60 [zP b, zI code, zI at0] [] [HA.blk b (.cells [st s_0, zI s_1, s_2, zI s_3, zI s_4, st s_5].toArray 100 (0, 0))] (fun o => (∃ (v : Bool) (d_0 : List UInt8) (d_1 : Int) (d_2 : Value) (d_3 : Int) (d_4 : Int) (d_5 : List UInt8), K v d_0 d_1 d_2 d_3 d_4 d_5 ∧ o = .ret (zB v) [HA.blk b (.cells [st d_0, zI d_1, d_2, zI d_3, zI d_4, st d_5].toArray 100 (0, 0))]) ∨ (False)) := by
 unfold an7 at h
 refine c7 (n := 13) (L0 := [(0, zP b), (1, zI code), (2, zI at0)]) Tryd.func60 rfl rfl rfl rfl (fun w0 M Q hE => ?_)
 refine a7 (fun _ hK => ?_)
 refine a6 ?_
 refine wA ?_
 refine WL.nil ?_
 refine kg (hK [(0, zP b), (1, zI code), (2, zI at0)] _ ?_)
 refine a7 (fun _ hK_1' => ?_)
 refine a6 ?_
 refine wm ?_
 refine wm ?_
 refine wm ?_
 refine wv (OV.build rfl (cs := [zI code, zI at0, st []]) rfl) ?_
 refine wv (OV.nilCheck rfl) ?_
 refine wv (OV.fieldAddr0 rfl aed) ?_
 refine WL.store (vs := [zI code, zI at0, st []]) (cs' := [st s_0, zI s_1, s_2, zI code, zI at0, st []]) 0 rfl rfl rfl rfl n4 (Nat.le_of_ble_eq_true rfl) rfl rfl rfl ?_
 refine WL.nil ?_
 refine KX.go (hK_1' [] _ ?_) trivial
 refine a7 (fun _ hK_2' => ?_)
 refine a6 ?_
 refine wA ?_
 refine WL.nil ?_
 refine kg (hK_2' [(6, zB false)] _ ?_)
 refine c9 ?_
 exact hE.ret [0] rfl rfl (.inl ⟨_, _, _, _, _, _, _, h, rfl⟩) (e7.of1 rfl (RV.tmp rfl))
def aq7 (s_0 : List UInt8) (s_1 : Int) (s_3 : Int) (s_4 : Int) (s_5 : List UInt8) (sl : List Tok) (kind : Int) (from0 : Int) (text : List UInt8) (K : Bool → (List UInt8) → Int → Int → Int → (List UInt8) → (List Tok) → Prop) : Prop :=
 (((sl.length + 1) + (sl.length + 1) / 4 + 192) * 32 ≤ 281474976710656 ∧ sl.length + 1 ≤ 9223372036854775807) ∧
 K true s_0 s_1 s_3 s_4 s_5 (sl ++ [(kind, from0, text)])
theorem aub (b : Nat) (w : Value) (s_0 : List UInt8) (s_1 : Int) (s_3 : Int) (s_4 : Int) (s_5 : List UInt8) (sl : List Tok) (kind : Int) (from0 : Int) (text : List UInt8) (K : Bool → (List UInt8) → Int → Int → Int → (List UInt8) → (List Tok) → Prop) (h : aq7 s_0 s_1 s_3 s_4 s_5 sl kind from0 text K) :
  d8 Tryd.prog 37 [zP b, zI kind, zI from0, st text] [] [HA.blk b (.cells [st s_0, zI s_1, w, zI s_3, zI s_4, st s_5].toArray 100 (0, 0)), HA.row w 102 3 sl.length (sl.flatMap f9)] (fun o => (∃ (v : Bool) (d_1' : List UInt8) (d_2' : Int) (d_3' : Int) (d_4' : Int) (d_5' : List UInt8) (w_2' : Value) (d : List Tok), K v d_1' d_2' d_3' d_4' d_5' d ∧ o = .ret (zB v) [HA.blk b (.cells [st d_1', zI d_2', w_2', zI d_3', zI d_4', st d_5'].toArray 100 (0, 0)), HA.row w_2' 102 3 d.length (d.flatMap f9)]) ∨ (False)) := by
 unfold aq7 at h
 refine c7 (n := 22) (L0 := [(0, zP b), (1, zI kind), (2, zI from0), (3, st text)]) Tryd.func37 rfl rfl rfl rfl (fun w0 M Q hE => ?_)
 refine a7 (fun _ hK => ?_)
 refine a6 ?_
 refine wA ?_
 refine WL.nil ?_
 refine kg (hK [(0, zP b), (1, zI kind), (2, zI from0), (3, st text)] _ ?_)
 refine a7 (fun _ hK_1' => ?_)
 refine a6 ?_
 refine wm ?_
 refine wm ?_
 refine wv (OV.nilCheck rfl) ?_
 refine wv (OV.fieldAddr0 rfl abq) ?_
 refine wv (OV.load rfl (At.own 0 rfl) rfl abr) ?_
 refine wm ?_
 refine wm ?_
 refine wm ?_
 refine wv (OV.build rfl (cs := [zI kind, zI from0, st text]) rfl) ?_
 refine WL.make (MV.buildSlice (cs := [zI kind, zI from0, st text]) rfl ad6 (by kernel_rfl)) rfl rfl rfl (fun b_1' => ?_)
 obtain ⟨o, h⟩ := h
 refine WL.append (f := f9) (ms := [(kind, from0, text)]) 2 0 rfl rfl rfl rfl rfl rfl ahl (by decide) rfl ad6 aku rfl o rfl rfl (fun w_1' => ?_)
 refine wv (OV.nilCheck rfl) ?_
 refine wv (OV.fieldAddr0 rfl abq) ?_
 refine WL.storeSl (cs' := [st s_0, zI s_1, w_1', zI s_3, zI s_4, st s_5]) 1 2 rfl rfl rfl rfl ag4 (Nat.le_of_ble_eq_true rfl) rfl rfl ?_
 refine WL.nil ?_
 refine KX.go (hK_1' [] _ ?_) trivial
 refine a7 (fun _ hK_2' => ?_)
 refine a6 ?_
 refine wA ?_
 refine WL.nil ?_
 refine kg (hK_2' [(8, zB true)] _ ?_)
 refine c9 ?_
 exact hE.ret [1, 2] rfl rfl (.inl ⟨_, _, _, _, _, _, _, _, h, rfl⟩) (e7.of1 rfl (RV.tmp rfl))
theorem ady (c : Int) : d8 Tryd.prog 58 [.int .u8 c] [] [] (Ret (.bool (j7 c)) []) :=
 (ajt c (fun r => r = j7 c) rfl).weak (by rintro o (⟨v, rfl, rfl⟩ | h) <;> first | rfl | exact h.elim)
theorem aig (c : Int) : d8 Tryd.prog 59 [.int .u8 c] [] [] (Ret (.bool (p5 c)) []) :=
 (alo c (fun r => r = p5 c) rfl).weak (by rintro o (⟨v, rfl, rfl⟩ | h) <;> first | rfl | exact h.elim)
theorem aah (c : Int) : d8 Tryd.prog 72 [.int .u8 c] [] [] (Ret (.bool (p6 c)) []) :=
 (agr c (fun r => r = p6 c) rfl).weak (by rintro o (⟨v, rfl, rfl⟩ | h) <;> first | rfl | exact h.elim)
abbrev scB (t : List UInt8) (a : Int) (w : Value) (fc fa : Int) (ft : List UInt8) : Obj := .cells [st t, zI a, w, zI fc, zI fa, st ft].toArray 100 (0, 0)
abbrev ae7 (w : Value) (l : List Tok) : HA := HA.row w 102 3 l.length (l.flatMap f9)
theorem q7 (b : Nat) (t : List UInt8) (a : Int) (w : Value) (fc fa : Int) (ft : List UInt8) : d8 Tryd.prog 35 [.pointer (some ⟨b, 0, none⟩)] [(b, scB t a w fc fa ft)] [] (Ret (.bool (decide (t.length ≤ a))) []) :=
 (aq9 b t a w fc fa ft (fun r => r = decide ((t.length : Int) ≤ a)) rfl).weak (by rintro o (⟨v, rfl, rfl⟩ | h) <;> first | rfl | exact h.elim)
theorem x4 (b : Nat) (t : List UInt8) (a : Int) (w : Value) (fc fa : Int) (ft : List UInt8) (code p : Int) : d8 Tryd.prog 60 [.pointer (some ⟨b, 0, none⟩), .int .i64 code, .int .i64 p] [] [.blk b (scB t a w fc fa ft)] (Ret (.bool false) [.blk b (scB t a w code p [])]) :=
 (ata b t a w fc fa ft code p (fun r t' a' w' c' p' x => r = false ∧ t' = t ∧ a' = a ∧ w' = w ∧ c' = code ∧ p' = p ∧ x = []) ⟨rfl, rfl, rfl, rfl, rfl, rfl, rfl⟩).weak (by
  rintro o (⟨_, _, _, _, _, _, _, ⟨rfl, rfl, rfl, rfl, rfl, rfl, rfl⟩, rfl⟩ | h)
  ·rfl
  ·exact h.elim)
theorem acj (b : Nat) (t : List UInt8) (a : Int) (w : Value) (fc fa : Int) (ft : List UInt8) (l : List Tok) (k p : Int) (x : List UInt8) (h : l.length ≤ 4096) : d8 Tryd.prog 37 [.pointer (some ⟨b, 0, none⟩), .int .i64 k, .int .i64 p, st x] [] [.blk b (scB t a w fc fa ft), ae7 w l]
  (fun o => ∃ w' : Value, o = .ret (.bool true) [.blk b (scB t a w' fc fa ft), ae7 w' (l ++ [(k, p, x)])]) :=
 (aub b w t a fc fa ft l k p x (fun r t' a' c' p' x' l' => r = true ∧ t' = t ∧ a' = a ∧ c' = fc ∧ p' = fa ∧ x' = ft ∧ l' = l ++ [(k, p, x)]) ⟨⟨by omega, by omega⟩, rfl, rfl, rfl, rfl, rfl, rfl, rfl⟩).weak (by
  rintro o (hh | h)
  ·obtain ⟨_, _, _, _, _, _, w', _, ⟨rfl, rfl, rfl, rfl, rfl, rfl, rfl⟩, rfl⟩ := hh
   exact ⟨w', rfl⟩
  ·exact h.elim)
end Go.Proofs.YtifajndacnfcbaaDoor
set_option maxRecDepth 100000
namespace Go.Proofs.YtifajndacnfcbaaDoor
open Go Go.RowKit
theorem t6 : l6 Tryd.prog 35 = true := by kernel_rfl
theorem l8 : m5 Tryd.prog 3 1 = true := by kernel_rfl
def akg (s_0 : List UInt8) (s_1 : Int) (s_2 : Value) (s_3 : Int) (s_4 : Int) (s_5 : List UInt8) (K : (List UInt8) → Int → Value → Int → Int → (List UInt8) → Prop) : Prop :=
 ∃ (Inv_2' : Int → Prop) (mu_2' : Int → Nat),
  Inv_2' s_1 ∧ ∀ (s_1_6' : Int), Inv_2' s_1_6' →
   (if (!(decide (s_0.length ≤ s_1_6'))) = true then
    (0 ≤ s_1_6' ∧ s_1_6' < s_0.length) ∧
    (if (decide (((s_0.getD s_1_6'.toNat 0).toNat : Int) = 35)) = true then
     ∃ (Inv_3' : Int → Prop) (mu_3' : Int → Nat),
      Inv_3' s_1_6' ∧ ∀ (s_1_8' : Int), Inv_3' s_1_8' →
       ((!(decide (s_0.length ≤ s_1_8'))) = true → (0 ≤ s_1_8' ∧ s_1_8' < s_0.length)) ∧
       (if ((!(decide (s_0.length ≤ s_1_8'))) && (!decide (((s_0.getD s_1_8'.toNat 0).toNat : Int) = 10))) = true then
        (I64 (s_1_8' + 1)) ∧
        Inv_3' (s_1_8' + 1) ∧ mu_3' (s_1_8' + 1) < mu_3' s_1_8'
       else
        Inv_2' s_1_8' ∧ mu_2' s_1_8' < mu_2' s_1_6')
    else
     ∃ (J0_2' : Bool → Prop),
      (∀ (t38_2' : Bool), J0_2' t38_2' →
       (if t38_2' = true then
        (I64 (s_1_6' + 1)) ∧
        Inv_2' (s_1_6' + 1) ∧ mu_2' (s_1_6' + 1) < mu_2' s_1_6'
       else
        K s_0 s_1_6' s_2 s_3 s_4 s_5)) ∧
      (if (decide (((s_0.getD s_1_6'.toNat 0).toNat : Int) = 32)) = true then
       J0_2' (decide (((s_0.getD s_1_6'.toNat 0).toNat : Int) = 32))
      else
       (if (decide (((s_0.getD s_1_6'.toNat 0).toNat : Int) = 9)) = true then
        J0_2' (decide (((s_0.getD s_1_6'.toNat 0).toNat : Int) = 9))
       else
        (if (decide (((s_0.getD s_1_6'.toNat 0).toNat : Int) = 10)) = true then
         J0_2' (decide (((s_0.getD s_1_6'.toNat 0).toNat : Int) = 10))
        else
         J0_2' (decide (((s_0.getD s_1_6'.toNat 0).toNat : Int) = 13))))))
   else
    K s_0 s_1_6' s_2 s_3 s_4 s_5)
theorem ato (b : Nat) (s_0 : List UInt8) (s_1 : Int) (s_2 : Value) (s_3 : Int) (s_4 : Int) (s_5 : List UInt8) (K : (List UInt8) → Int → Value → Int → Int → (List UInt8) → Prop) (h : akg s_0 s_1 s_2 s_3 s_4 s_5 K) :
  d8 Tryd.prog 34 [zP b] [] [HA.blk b (.cells [st s_0, zI s_1, s_2, zI s_3, zI s_4, st s_5].toArray 100 (0, 0))] (fun o => (∃ (d_0 : List UInt8) (d_1 : Int) (d_2 : Value) (d_3 : Int) (d_4 : Int) (d_5 : List UInt8), K d_0 d_1 d_2 d_3 d_4 d_5 ∧ o = .ret (Value.tuple #[]) [HA.blk b (.cells [st d_0, zI d_1, d_2, zI d_3, zI d_4, st d_5].toArray 100 (0, 0))]) ∨ (False)) := by
 unfold akg at h
 refine c7 (n := 50) (L0 := [(0, zP b)]) Tryd.func34 rfl rfl rfl rfl (fun w0 M Q hE => ?_)
 refine c6 ?_
 obtain ⟨Inv_2', mu_2', h0_2', hr_2'⟩ := h
 refine w9 (S := Int) (fun σ => Inv_2' σ) (fun σ => mu_2' σ) (fun σ => [(0, zP b)]) (fun σ => [HA.blk b (.cells [st s_0, zI σ, s_2, zI s_3, zI s_4, st s_5].toArray 100 (0, 0))]) s_1 h0_2' ⟨rfl, trivial⟩ rfl ?_
 rintro s_1_6' hi K0_42' hK_42'
 have h := hr_2' s_1_6' hi
 show WC _ _ _ _ [(0, zP b)] [HA.blk b (.cells [st s_0, zI s_1_6', s_2, zI s_3, zI s_4, st s_5].toArray 100 (0, 0))]
 refine a7 (fun _ hK_43' => ?_)
 refine a7 (fun _ hK_44' => ?_)
 refine a6 ?_
 refine wm ?_
 refine WL.call (A := []) t6 rfl (q7 b s_0 s_1_6' s_2 s_3 s_4 s_5) rfl ⟨.inl ⟨0, rfl⟩, trivial⟩ rfl rfl ?_
 refine wv (OV.not rfl) ?_
 refine WL.nil ?_
 refine kg (hK_44' [(0, zP b), (4, zB (!(decide (s_0.length ≤ s_1_6'))))] _ ?_)
 refine b8 (b := !(decide (s_0.length ≤ s_1_6'))) rfl (fun hb => ?_) (fun hb => ?_)
 ·replace h := j3 h hb
  refine c5 ?_
  refine kg (hK_43' [(0, zP b)] _ ?_)
  refine c6 ?_
  refine a7 (fun _ hK_45' => ?_)
  refine m0 8 [] h8 (by kernel_rfl) rfl (fun T_8' hT_8' => ?_)
  refine fv (fun _ => OV.move rfl) ?_
  refine fv (fun _ => OV.nilCheck rfl) ?_
  refine fv (fun _ => OV.fieldAddr0 rfl f8) ?_
  refine fv (fun _ => OV.load rfl (At.own 0 rfl) rfl c8) ?_
  refine fv (fun _ => OV.move rfl) ?_
  refine fv (fun _ => OV.nilCheck rfl) ?_
  refine fv (fun _ => OV.fieldAddr0 rfl b7) ?_
  refine fv (fun _ => OV.load rfl (At.own 0 rfl) rfl b9) ?_
  refine FL.weak (L' := fun γ => [(0, zP b), (8, st s_0), (12, zI s_1_6')]) (fun γ => ⟨rfl, rfl, rfl, trivial⟩) (FL.nil (hT_8' (fun γ => [(0, zP b), (8, st s_0), (12, zI s_1_6')]) (fun γ => ?_)))
  obtain ⟨o_22', h⟩ := h
  refine wv (OV.index rfl rfl d5 o_22') ?_
  refine WL.nil ?_
  refine kg (hK_45' [(0, zP b), (13, zU ((s_0.getD s_1_6'.toNat 0).toNat : Int))] _ ?_)
  refine c6 ?_
  refine a7 (fun _ hK_46' => ?_)
  refine a6 ?_
  refine wv (OV.eql rfl rfl) ?_
  refine wA ?_
  refine WL.nil ?_
  refine kg (hK_46' [(0, zP b), (13, zU ((s_0.getD s_1_6'.toNat 0).toNat : Int)), (14, zB (decide (((s_0.getD s_1_6'.toNat 0).toNat : Int) = 35)))] _ ?_)
  refine b8 (b := decide (((s_0.getD s_1_6'.toNat 0).toNat : Int) = 35)) rfl (fun hb => ?_) (fun hb => ?_)
  ·replace h := j3 h hb
   refine c6 ?_
   obtain ⟨Inv_3', mu_3', h0_3', hr_3'⟩ := h
   refine w9 (S := Int) (fun σ => Inv_3' σ) (fun σ => mu_3' σ) (fun σ => [(0, zP b)]) (fun σ => [HA.blk b (.cells [st s_0, zI σ, s_2, zI s_3, zI s_4, st s_5].toArray 100 (0, 0))]) s_1_6' h0_3' ⟨rfl, trivial⟩ rfl ?_
   rintro s_1_8' hi K0_53' hK_53'
   have h := hr_3' s_1_8' hi
   show WC _ _ _ _ [(0, zP b)] [HA.blk b (.cells [st s_0, zI s_1_8', s_2, zI s_3, zI s_4, st s_5].toArray 100 (0, 0))]
   refine a7 (fun _ hK_54' => ?_)
   refine a7 (fun _ hK_55' => ?_)
   refine abz [] h8 (by kernel_rfl) rfl (fun T_11' hT_11' => ?_)
   refine fv (fun _ => OV.move rfl) ?_
   refine FL.call t6 (fun _ => rfl) (q7 b s_0 s_1_8' s_2 s_3 s_4 s_5) ⟨.inl ⟨0, rfl⟩, trivial⟩ rfl (fun _ => rfl) rfl ?_
   refine fv (fun _ => OV.not rfl) ?_
   refine fv (fun _ => OV.move rfl) ?_
   obtain ⟨o_30', h⟩ := h
   refine FL.cut 11 rfl (fun _ => [(0, zP b), (30, zB ((!(decide (s_0.length ≤ s_1_8'))) && (!decide (((s_0.getD s_1_8'.toNat 0).toNat : Int) = 10))))]) ?_ (fun K0_56' hK_56' => ?_)
   rotate_left
   ·refine FL.split (!(decide (s_0.length ≤ s_1_8'))) (fun hb => ?_) (fun hb => ?_)
    ·have o_29' := o_30' hb
     refine FL.set 19 (fun _ => rfl) (congrArg zB hb) ?_
     refine fv (fun _ => OV.move rfl) ?_
     refine fv (fun _ => OV.nilCheck rfl) ?_
     refine fv (fun _ => OV.fieldAddr0 rfl f8) ?_
     refine fv (fun _ => OV.load rfl (At.own 0 rfl) rfl c8) ?_
     refine fv (fun _ => OV.move rfl) ?_
     refine fv (fun _ => OV.nilCheck rfl) ?_
     refine fv (fun _ => OV.fieldAddr0 rfl b7) ?_
     refine fv (fun _ => OV.load rfl (At.own 0 rfl) rfl b9) ?_
     refine fv (fun _ => OV.index rfl rfl d5 o_29') ?_
     refine fv (fun _ => OV.neq rfl rfl) ?_
     refine fv (fun _ => OV.pickT rfl rfl) ?_
     refine FL.set 30 (fun _ => rfl) (bT (v := !decide (((s_0.getD s_1_8'.toNat 0).toNat : Int) = 10)) hb) ?_
     exact FL.weak (L' := fun _ => [(0, zP b), (30, zB ((!(decide (s_0.length ≤ s_1_8'))) && (!decide (((s_0.getD s_1_8'.toNat 0).toNat : Int) = 10))))]) (fun _ => ⟨rfl, rfl, trivial⟩) (FL.nil hK_56')
    ·refine FL.set 19 (fun _ => rfl) (congrArg zB hb) ?_
     refine FL.skip rfl (fun _ => rfl) rfl rfl ?_
     refine FL.skip rfl (fun _ => rfl) rfl rfl ?_
     refine FL.skip rfl (fun _ => rfl) rfl rfl ?_
     refine FL.skip rfl (fun _ => rfl) rfl rfl ?_
     refine FL.skip rfl (fun _ => rfl) rfl rfl ?_
     refine FL.skip rfl (fun _ => rfl) rfl rfl ?_
     refine FL.skip rfl (fun _ => rfl) rfl rfl ?_
     refine FL.skip rfl (fun _ => rfl) rfl rfl ?_
     refine FL.skip rfl (fun _ => rfl) rfl rfl ?_
     refine FL.skip rfl (fun _ => rfl) rfl rfl ?_
     refine fv (fun _ => OV.pickF rfl rfl) ?_
     refine FL.set 30 (fun _ => rfl) (bF (v := !decide (((s_0.getD s_1_8'.toNat 0).toNat : Int) = 10)) hb) ?_
     exact FL.weak (L' := fun _ => [(0, zP b), (30, zB ((!(decide (s_0.length ≤ s_1_8'))) && (!decide (((s_0.getD s_1_8'.toNat 0).toNat : Int) = 10))))]) (fun _ => ⟨rfl, rfl, trivial⟩) (FL.nil hK_56')
   refine FL.weak (L' := fun _ => [(0, zP b), (30, zB ((!(decide (s_0.length ≤ s_1_8'))) && (!decide (((s_0.getD s_1_8'.toNat 0).toNat : Int) = 10))))]) (fun _ => ⟨rfl, rfl, trivial⟩) (FL.nil (hT_11' (fun _ => [(0, zP b), (30, zB ((!(decide (s_0.length ≤ s_1_8'))) && (!decide (((s_0.getD s_1_8'.toNat 0).toNat : Int) = 10))))]) (fun _ => ?_)))
   refine kg (hK_55' [(0, zP b), (30, zB ((!(decide (s_0.length ≤ s_1_8'))) && (!decide (((s_0.getD s_1_8'.toNat 0).toNat : Int) = 10))))] _ ?_)
   refine b8 (b := (!(decide (s_0.length ≤ s_1_8'))) && (!decide (((s_0.getD s_1_8'.toNat 0).toNat : Int) = 10))) rfl (fun hb => ?_) (fun hb => ?_)
   ·replace h := j3 h hb
    refine c5 ?_
    refine kg (hK_54' [(0, zP b)] _ ?_)
    refine c6 ?_
    refine a6 ?_
    refine wm ?_
    refine wv (OV.nilCheck rfl) ?_
    refine wv (OV.fieldAddr0 rfl b7) ?_
    refine wv (OV.load rfl (At.own 0 rfl) rfl b9) ?_
    obtain ⟨o_31', h⟩ := h
    refine wv (OV.add rfl rfl o_31') ?_
    refine wv (OV.nilCheck rfl) ?_
    refine wv (OV.fieldAddr0 rfl b7) ?_
    refine WL.store (vs := [zI (s_1_8' + 1)]) (cs' := [st s_0, zI (s_1_8' + 1), s_2, zI s_3, zI s_4, st s_5]) 0 rfl rfl rfl rfl l8 (Nat.le_of_ble_eq_true rfl) rfl rfl rfl ?_
    refine WL.nil ?_
    exact kh (hK_53' (s_1_8' + 1) h.1 h.2) [0]
   ·replace h := j0 h hb
    refine p8 ?_
    exact kh (hK_42' s_1_8' h.1 h.2) [0]
  ·replace h := j0 h hb
   obtain ⟨J0_2', hJ_2', h⟩ := h
   refine o9 (X := Bool) (fun σ => J0_2' σ) (fun σ => [(0, zP b), (38, zB σ)]) (fun σ => [HA.blk b (.cells [st s_0, zI s_1_6', s_2, zI s_3, zI s_4, st s_5].toArray 100 (0, 0))]) ?_ (fun K0_60' hK_60' => ?_)
   ·rintro t38_2' hj
    replace h := hJ_2' t38_2' hj
    show WC _ _ _ _ [(0, zP b), (38, zB t38_2')] [HA.blk b (.cells [st s_0, zI s_1_6', s_2, zI s_3, zI s_4, st s_5].toArray 100 (0, 0))]
    refine b8 (b := t38_2') rfl (fun hb => ?_) (fun hb => ?_)
    ·replace h := j3 h hb
     refine a6 ?_
     refine wm ?_
     refine wv (OV.nilCheck rfl) ?_
     refine wv (OV.fieldAddr0 rfl b7) ?_
     refine wv (OV.load rfl (At.own 0 rfl) rfl b9) ?_
     obtain ⟨o_32', h⟩ := h
     refine wv (OV.add rfl rfl o_32') ?_
     refine wv (OV.nilCheck rfl) ?_
     refine wv (OV.fieldAddr0 rfl b7) ?_
     refine WL.store (vs := [zI (s_1_6' + 1)]) (cs' := [st s_0, zI (s_1_6' + 1), s_2, zI s_3, zI s_4, st s_5]) 0 rfl rfl rfl rfl l8 (Nat.le_of_ble_eq_true rfl) rfl rfl rfl ?_
     refine WL.nil ?_
     exact kh (hK_42' (s_1_6' + 1) h.1 h.2) [0]
    ·replace h := j0 h hb
     refine c9 ?_
     exact hE.ret [0] rfl rfl (.inl ⟨_, _, _, _, _, _, h, rfl⟩) (e7.none rfl)
   ·skip
    refine a7 (fun _ hK_61' => ?_)
    refine a6 ?_
    refine wv (OV.eql rfl rfl) ?_
    refine wA ?_
    refine WL.nil ?_
    refine kg (hK_61' [(0, zP b), (13, zU ((s_0.getD s_1_6'.toNat 0).toNat : Int)), (38, zB (decide (((s_0.getD s_1_6'.toNat 0).toNat : Int) = 32)))] _ ?_)
    refine b8 (b := decide (((s_0.getD s_1_6'.toNat 0).toNat : Int) = 32)) rfl (fun hb => ?_) (fun hb => ?_)
    ·replace h := j3 h hb
     refine c5 ?_
     exact kh (hK_60' (decide (((s_0.getD s_1_6'.toNat 0).toNat : Int) = 32)) h) [0]
    ·replace h := j0 h hb
     refine a7 (fun _ hK_62' => ?_)
     refine a6 ?_
     refine wv (OV.eql rfl rfl) ?_
     refine wA ?_
     refine WL.nil ?_
     refine kg (hK_62' [(0, zP b), (13, zU ((s_0.getD s_1_6'.toNat 0).toNat : Int)), (38, zB (decide (((s_0.getD s_1_6'.toNat 0).toNat : Int) = 9)))] _ ?_)
     refine b8 (b := decide (((s_0.getD s_1_6'.toNat 0).toNat : Int) = 9)) rfl (fun hb => ?_) (fun hb => ?_)
     ·replace h := j3 h hb
      refine c5 ?_
      exact kh (hK_60' (decide (((s_0.getD s_1_6'.toNat 0).toNat : Int) = 9)) h) [0]
     ·replace h := j0 h hb
      refine a7 (fun _ hK_63' => ?_)
      refine a6 ?_
      refine wv (OV.eql rfl rfl) ?_
      refine wA ?_
      refine WL.nil ?_
      refine kg (hK_63' [(0, zP b), (13, zU ((s_0.getD s_1_6'.toNat 0).toNat : Int)), (38, zB (decide (((s_0.getD s_1_6'.toNat 0).toNat : Int) = 10)))] _ ?_)
      refine b8 (b := decide (((s_0.getD s_1_6'.toNat 0).toNat : Int) = 10)) rfl (fun hb => ?_) (fun hb => ?_)
      ·replace h := j3 h hb
       refine c5 ?_
       exact kh (hK_60' (decide (((s_0.getD s_1_6'.toNat 0).toNat : Int) = 10)) h) [0]
      ·replace h := j0 h hb
       refine a6 ?_
       refine wv (OV.eql rfl rfl) ?_
       refine wA ?_
       refine WL.nil ?_
       exact kh (hK_60' (decide (((s_0.getD s_1_6'.toNat 0).toNat : Int) = 13)) h) [0]
 ·replace h := j0 h hb
  refine p8 ?_
  exact hE.norm [0] rfl rfl (.inl ⟨_, _, _, _, _, _, h, rfl⟩) (e7.none rfl)
theorem ans (x n : UInt8) : (x == n) = decide ((x.toNat : Int) = (n.toNat : Int)) := by
 rw [Bool.eq_iff_iff, beq_iff_eq, decide_eq_true_eq]
 constructor
 ·rintro rfl; rfl
 ·intro h; exact UInt8.toNat_inj.1 (by omega)
theorem afs {t : List UInt8} {p : Int} (h : 0 ≤ p ∧ p < t.length) : ∃ x : UInt8, t.drop p.toNat = x :: t.drop (p + 1).toNat ∧ bt t p = (x.toNat : Int) := by
 have hlt : p.toNat < t.length := by omega
 refine ⟨t[p.toNat], ?_, ?_⟩
 ·rw [List.drop_eq_getElem_cons hlt, show (p + 1).toNat = p.toNat + 1 by omega]
 ·unfold bt; rw [List.getD_eq_getElem?_getD, List.getElem?_eq_getElem hlt]; rfl
theorem agv {t : List UInt8} {p : Int} (cm : Bool) (h : 0 ≤ p ∧ p < t.length) :
  ae2 cm (t.drop p.toNat) = if (((cm || decide (bt t p = 35)) && !decide (bt t p = 10)) || decide (bt t p = 32) || decide (bt t p = 9) || decide (bt t p = 10) || decide (bt t p = 13)) = true then 1 + ae2 ((cm || decide (bt t p = 35)) && !decide (bt t p = 10)) (t.drop (p + 1).toNat) else 0 := by
 obtain ⟨x, hx, hb⟩ := afs h
 rw [hx, ae2, hb]
 simp only [bne, ans]
 rfl
theorem x0 {t : List UInt8} {a : Int} (h : 0 ≤ a ∧ a ≤ t.length) : a ≤ r8 t a ∧ r8 t a ≤ t.length := by
 have := aob false (t.drop a.toNat)
 rw [List.length_drop] at this
 unfold r8; omega
theorem ag0 {t : List UInt8} {p : Int} (cm : Bool) (h : (t.length : Int) ≤ p) : ae2 cm (t.drop p.toNat) = 0 := by
 rw [List.drop_eq_nil_of_le (by omega)]; cases cm <;> rfl
theorem ai2 (b : Nat) (t : List UInt8) (a : Int) (w : Value) (fc fa : Int) (ft : List UInt8) (h : 0 ≤ a ∧ a ≤ t.length ∧ t.length ≤ 4096) :
  d8 Tryd.prog 34 [.pointer (some ⟨b, 0, none⟩)] [] [.blk b (scB t a w fc fa ft)] (Ret (.tuple #[]) [.blk b (scB t (r8 t a) w fc fa ft)]) := by
 refine (ato b t a w fc fa ft (fun t' a' w' c' p' x => t' = t ∧ a' = r8 t a ∧ w' = w ∧ c' = fc ∧ p' = fa ∧ x = ft) ?_).weak ?_
 ·unfold akg
  refine ⟨fun p => 0 ≤ p ∧ p ≤ t.length ∧ r8 t p = r8 t a, fun p => (t.length - p).toNat, ⟨h.1, h.2.1, rfl⟩, ?_⟩
  rintro p ⟨h0, h1, hg⟩
  by_cases hp : p < t.length
  ·rw [if_pos (by simp; omega)]
   have hb : 0 ≤ p ∧ p < t.length := ⟨h0, hp⟩
   have hs := agv false hb
   simp only [Bool.false_or] at hs
   have hI : I64 (p + 1) := ⟨by omega, by omega⟩
   refine ⟨hb, ?_⟩
   show (if decide (bt t p = 35) = true then _ else _)
   by_cases c35 : bt t p = 35
   ·rw [if_pos (by simpa using c35)]
    have ht : p + ae2 true (t.drop p.toNat) = r8 t a := by
     rw [← hg]; unfold r8
     have h2 := agv true hb
     rw [c35] at hs h2
     rw [hs, h2]; rfl
    refine ⟨fun q => p ≤ q ∧ q ≤ t.length ∧ q + ae2 true (t.drop q.toNat) = r8 t a, fun q => (t.length - q).toNat, ⟨Int.le_refl _, h1, ht⟩, ?_⟩
    rintro q ⟨q0, q1, hq⟩
    by_cases hql : q < t.length
    ·have hqb : 0 ≤ q ∧ q < t.length := ⟨by omega, hql⟩
     refine ⟨fun _ => hqb, ?_⟩
     show (if (!decide ((t.length : Int) ≤ q) && !decide (bt t q = 10)) = true then _ else _)
     have h2 := agv true hqb
     by_cases c10 : bt t q = 10
     ·rw [if_neg (by simp [c10])]
      have h3 := agv false hqb
      have hne : p ≠ q := fun e => by rw [← e, c35] at c10; omega
      rw [c10] at h2 h3
      refine ⟨⟨by omega, q1, ?_⟩, by show (t.length - q).toNat < (t.length - p).toNat; omega⟩
      rw [← hq, h2]; unfold r8; rw [h3]; rfl
     ·rw [if_pos (by simp [c10]; omega)]
      refine ⟨⟨by omega, by omega⟩, ⟨by omega, by omega, ?_⟩, by show (t.length - (q + 1)).toNat < (t.length - q).toNat; omega⟩
      rw [← hq, h2]
      simp [c10]; omega
    ·refine ⟨fun hh => absurd hh (by simp; omega), ?_⟩
     rw [if_neg (by simp; omega)]
     refine ⟨⟨by omega, q1, ?_⟩, by show (t.length - q).toNat < (t.length - p).toNat; omega⟩
     rw [← hq]; unfold r8
     rw [ag0 _ (by omega), ag0 _ (by omega)]
   ·rw [if_neg (by simpa using c35)]
    have hkey : ae2 false (t.drop p.toNat) = if decide (bt t p = 32 ∨ bt t p = 9 ∨ bt t p = 10 ∨ bt t p = 13) = true then 1 + ae2 false (t.drop (p + 1).toNat) else 0 := by
     rw [hs]
     simp only [c35, decide_false, Bool.false_and, Bool.false_or]
     congr 1
     simp [or_assoc]
    refine ⟨fun r => r = decide (bt t p = 32 ∨ bt t p = 9 ∨ bt t p = 10 ∨ bt t p = 13), fun r hr => ?_, ?_⟩
    ·rw [← hr] at hkey
     by_cases hr2 : r = true
     ·rw [if_pos hr2]
      rw [if_pos hr2] at hkey
      refine ⟨hI, ⟨by omega, by omega, ?_⟩, by show (t.length - (p + 1)).toNat < (t.length - p).toNat; omega⟩
      rw [← hg]; unfold r8; rw [hkey]; omega
     ·rw [if_neg hr2]
      rw [if_neg hr2] at hkey
      refine ⟨rfl, ?_, rfl, rfl, rfl, rfl⟩
      rw [← hg]; unfold r8; rw [hkey]; omega
    ·show (if decide (bt t p = 32) = true then decide (bt t p = 32) = _ else if decide (bt t p = 9) = true then decide (bt t p = 9) = _ else if decide (bt t p = 10) = true then decide (bt t p = 10) = _ else decide (bt t p = 13) = _)
     generalize bt t p = c
     by_cases e1 : c = 32
     ·simp [e1]
     ·by_cases e2 : c = 9
      ·simp [e2]
      ·by_cases e3 : c = 10
       ·simp [e3]
       ·simp [e1, e2, e3]
  ·rw [if_neg (by simp; omega)]
   refine ⟨rfl, ?_, rfl, rfl, rfl, rfl⟩
   rw [← hg]; unfold r8; rw [ag0 _ (by omega)]; omega
 ·rintro o (⟨_, _, _, _, _, _, ⟨rfl, rfl, rfl, rfl, rfl, rfl⟩, rfl⟩ | h)
  ·rfl
  ·exact h.elim
end Go.Proofs.YtifajndacnfcbaaDoor
set_option maxRecDepth 100000
namespace Go.Proofs.YtifajndacnfcbaaDoor
open Go Go.RowKit
theorem af6 : l6 Tryd.prog 63 = true := by kernel_rfl
theorem aox : (Tryd.prog.underlying 3).isSome = true := by kernel_rfl
def af9 (s_0 : List UInt8) (s_1 : Int) (s_2 : Value) (s_3 : Int) (s_4 : Int) (s_5 : List UInt8) (K : Int → Bool → (List UInt8) → Int → Value → Int → Int → (List UInt8) → Prop) : Prop :=
 (I64 (s_1 + 1)) ∧
 (if (decide (s_0.length ≤ s_1 + 1)) = true then
  K 0 false s_0 (s_1 + 1) s_2 s_3 s_4 s_5
 else
  (0 ≤ (s_1 + 1) ∧ (s_1 + 1) < s_0.length) ∧
  (if (decide (((s_0.getD (s_1 + 1).toNat 0).toNat : Int) = 110)) = true then
   K 10 true s_0 (s_1 + 1) s_2 s_3 s_4 s_5
  else
   (if (decide (((s_0.getD (s_1 + 1).toNat 0).toNat : Int) = 114)) = true then
    K 13 true s_0 (s_1 + 1) s_2 s_3 s_4 s_5
   else
    (if (decide (((s_0.getD (s_1 + 1).toNat 0).toNat : Int) = 116)) = true then
     K 9 true s_0 (s_1 + 1) s_2 s_3 s_4 s_5
    else
     ∃ (J0 : Bool → Prop),
      (∀ (t32 : Bool), J0 t32 →
       (if t32 = true then
        K ((s_0.getD (s_1 + 1).toNat 0).toNat : Int) true s_0 (s_1 + 1) s_2 s_3 s_4 s_5
       else
        (if (decide (((s_0.getD (s_1 + 1).toNat 0).toNat : Int) = 120)) = true then
         (I64 ((s_1 + 1) + 1)) ∧
         (if (decide (s_0.length ≤ (s_1 + 1) + 1)) = true then
          K 0 false s_0 ((s_1 + 1) + 1) s_2 s_3 s_4 s_5
         else
          (0 ≤ ((s_1 + 1) + 1) ∧ ((s_1 + 1) + 1) < s_0.length) ∧
          (if (decide (Lib.indexByte ([48, 49, 50, 51, 52, 53, 54, 55, 56, 57, 97, 98, 99, 100, 101, 102] : List UInt8) (((s_0.getD ((s_1 + 1) + 1).toNat 0).toNat : Int)).toNat.toUInt8 < 0)) = true then
           K 0 false s_0 ((s_1 + 1) + 1) s_2 s_3 s_4 s_5
          else
           (I64 (0 + (Lib.indexByte ([48, 49, 50, 51, 52, 53, 54, 55, 56, 57, 97, 98, 99, 100, 101, 102] : List UInt8) (((s_0.getD ((s_1 + 1) + 1).toNat 0).toNat : Int)).toNat.toUInt8))) ∧
           (I64 (((s_1 + 1) + 1) + 1)) ∧
           (if (decide (s_0.length ≤ ((s_1 + 1) + 1) + 1)) = true then
            K 0 false s_0 (((s_1 + 1) + 1) + 1) s_2 s_3 s_4 s_5
           else
            (0 ≤ (((s_1 + 1) + 1) + 1) ∧ (((s_1 + 1) + 1) + 1) < s_0.length) ∧
            (if (decide (Lib.indexByte ([48, 49, 50, 51, 52, 53, 54, 55, 56, 57, 97, 98, 99, 100, 101, 102] : List UInt8) (((s_0.getD (((s_1 + 1) + 1) + 1).toNat 0).toNat : Int)).toNat.toUInt8 < 0)) = true then
             K 0 false s_0 (((s_1 + 1) + 1) + 1) s_2 s_3 s_4 s_5
            else
             (I64 (16 * (0 + (Lib.indexByte ([48, 49, 50, 51, 52, 53, 54, 55, 56, 57, 97, 98, 99, 100, 101, 102] : List UInt8) (((s_0.getD ((s_1 + 1) + 1).toNat 0).toNat : Int)).toNat.toUInt8)))) ∧
             (I64 ((16 * (0 + (Lib.indexByte ([48, 49, 50, 51, 52, 53, 54, 55, 56, 57, 97, 98, 99, 100, 101, 102] : List UInt8) (((s_0.getD ((s_1 + 1) + 1).toNat 0).toNat : Int)).toNat.toUInt8))) + (Lib.indexByte ([48, 49, 50, 51, 52, 53, 54, 55, 56, 57, 97, 98, 99, 100, 101, 102] : List UInt8) (((s_0.getD (((s_1 + 1) + 1) + 1).toNat 0).toNat : Int)).toNat.toUInt8))) ∧
             K (IntKind.wrap .u8 ((16 * (0 + (Lib.indexByte ([48, 49, 50, 51, 52, 53, 54, 55, 56, 57, 97, 98, 99, 100, 101, 102] : List UInt8) (((s_0.getD ((s_1 + 1) + 1).toNat 0).toNat : Int)).toNat.toUInt8))) + (Lib.indexByte ([48, 49, 50, 51, 52, 53, 54, 55, 56, 57, 97, 98, 99, 100, 101, 102] : List UInt8) (((s_0.getD (((s_1 + 1) + 1) + 1).toNat 0).toNat : Int)).toNat.toUInt8))) true s_0 (((s_1 + 1) + 1) + 1) s_2 s_3 s_4 s_5))))
        else
         K 0 false s_0 (s_1 + 1) s_2 s_3 s_4 s_5))) ∧
      (if (decide (((s_0.getD (s_1 + 1).toNat 0).toNat : Int) = 34)) = true then
       J0 (decide (((s_0.getD (s_1 + 1).toNat 0).toNat : Int) = 34))
      else
       J0 (decide (((s_0.getD (s_1 + 1).toNat 0).toNat : Int) = 92)))))))
theorem apt (b : Nat) (s_0 : List UInt8) (s_1 : Int) (s_2 : Value) (s_3 : Int) (s_4 : Int) (s_5 : List UInt8) (K : Int → Bool → (List UInt8) → Int → Value → Int → Int → (List UInt8) → Prop) (h : af9 s_0 s_1 s_2 s_3 s_4 s_5 K) :
  d8 Tryd.prog 73 [zP b] [] [HA.blk b (.cells [st s_0, zI s_1, s_2, zI s_3, zI s_4, st s_5].toArray 100 (0, 0))] (fun o => (∃ (v : Int) (v_1' : Bool) (d_0 : List UInt8) (d_1 : Int) (d_2 : Value) (d_3 : Int) (d_4 : Int) (d_5 : List UInt8), K v v_1' d_0 d_1 d_2 d_3 d_4 d_5 ∧ o = .ret (Value.tuple #[zU v, zB v_1']) [HA.blk b (.cells [st d_0, zI d_1, d_2, zI d_3, zI d_4, st d_5].toArray 100 (0, 0))]) ∨ (False)) := by
 unfold af9 at h
 refine c7 (n := 68) (L0 := [(0, zP b)]) Tryd.func73 rfl rfl rfl rfl (fun w0 M Q hE => ?_)
 refine a7 (fun _ hK => ?_)
 refine a6 ?_
 refine wA ?_
 refine wA ?_
 refine WL.nil ?_
 refine kg (hK [(0, zP b)] _ ?_)
 refine a7 (fun _ hK_1' => ?_)
 refine a6 ?_
 refine wm ?_
 refine wv (OV.nilCheck rfl) ?_
 refine wv (OV.fieldAddr0 rfl b7) ?_
 refine wv (OV.load rfl (At.own 0 rfl) rfl b9) ?_
 obtain ⟨o, h⟩ := h
 refine wv (OV.add rfl rfl o) ?_
 refine wv (OV.nilCheck rfl) ?_
 refine wv (OV.fieldAddr0 rfl b7) ?_
 refine WL.store (vs := [zI (s_1 + 1)]) (cs' := [st s_0, zI (s_1 + 1), s_2, zI s_3, zI s_4, st s_5]) 0 rfl rfl rfl rfl l8 (Nat.le_of_ble_eq_true rfl) rfl rfl rfl ?_
 refine WL.nil ?_
 refine kg (hK_1' [(0, zP b)] _ ?_)
 refine a7 (fun _ hK_2' => ?_)
 refine a7 (fun _ hK_3' => ?_)
 refine a6 ?_
 refine wm ?_
 refine WL.call (A := []) t6 rfl (q7 b s_0 (s_1 + 1) s_2 s_3 s_4 s_5) rfl ⟨.inl ⟨0, rfl⟩, trivial⟩ rfl rfl ?_
 refine WL.nil ?_
 refine kg (hK_3' [(0, zP b), (15, zB (decide (s_0.length ≤ s_1 + 1)))] _ ?_)
 refine b8 (b := decide (s_0.length ≤ s_1 + 1)) rfl (fun hb => ?_) (fun hb => ?_)
 ·replace h := j3 h hb
  refine a7 (fun _ hK_4' => ?_)
  refine a6 ?_
  refine wA ?_
  refine wA ?_
  refine WL.nil ?_
  refine kg (hK_4' [(2, zU 0), (3, zB false)] _ ?_)
  refine c9 ?_
  exact hE.ret [0] rfl rfl (.inl ⟨_, _, _, _, _, _, _, _, h, rfl⟩) (e7.of2 rfl (RV.tmp rfl) (RV.tmp rfl))
 ·replace h := j0 h hb
  refine c5 ?_
  refine kg (hK_2' [(0, zP b)] _ ?_)
  refine a7 (fun _ hK_5' => ?_)
  refine a7 (fun _ hK_6' => ?_)
  refine m0 8 [] h8 (by kernel_rfl) rfl (fun T hT => ?_)
  refine fv (fun _ => OV.move rfl) ?_
  refine fv (fun _ => OV.nilCheck rfl) ?_
  refine fv (fun _ => OV.fieldAddr0 rfl f8) ?_
  refine fv (fun _ => OV.load rfl (At.own 0 rfl) rfl c8) ?_
  refine fv (fun _ => OV.move rfl) ?_
  refine fv (fun _ => OV.nilCheck rfl) ?_
  refine fv (fun _ => OV.fieldAddr0 rfl b7) ?_
  refine fv (fun _ => OV.load rfl (At.own 0 rfl) rfl b9) ?_
  refine FL.weak (L' := fun γ => [(0, zP b), (19, st s_0), (23, zI (s_1 + 1))]) (fun γ => ⟨rfl, rfl, rfl, trivial⟩) (FL.nil (hT (fun γ => [(0, zP b), (19, st s_0), (23, zI (s_1 + 1))]) (fun γ => ?_)))
  obtain ⟨o_1', h⟩ := h
  refine wv (OV.index rfl rfl d5 o_1') ?_
  refine wA ?_
  refine WL.nil ?_
  refine kg (hK_6' [(0, zP b), (4, zU ((s_0.getD (s_1 + 1).toNat 0).toNat : Int))] _ ?_)
  refine a7 (fun _ hK_7' => ?_)
  refine a6 ?_
  refine wm ?_
  refine WL.nil ?_
  refine kg (hK_7' [(0, zP b), (4, zU ((s_0.getD (s_1 + 1).toNat 0).toNat : Int)), (25, zU ((s_0.getD (s_1 + 1).toNat 0).toNat : Int))] _ ?_)
  refine c6 ?_
  refine a7 (fun _ hK_8' => ?_)
  refine a6 ?_
  refine wv (OV.eql rfl rfl) ?_
  refine wA ?_
  refine WL.nil ?_
  refine kg (hK_8' [(0, zP b), (4, zU ((s_0.getD (s_1 + 1).toNat 0).toNat : Int)), (25, zU ((s_0.getD (s_1 + 1).toNat 0).toNat : Int)), (26, zB (decide (((s_0.getD (s_1 + 1).toNat 0).toNat : Int) = 110)))] _ ?_)
  refine b8 (b := decide (((s_0.getD (s_1 + 1).toNat 0).toNat : Int) = 110)) rfl (fun hb => ?_) (fun hb => ?_)
  ·replace h := j3 h hb
   refine a7 (fun _ hK_9' => ?_)
   refine a6 ?_
   refine wA ?_
   refine wA ?_
   refine WL.nil ?_
   refine kg (hK_9' [(2, zU 10), (3, zB true)] _ ?_)
   refine c9 ?_
   exact hE.ret [0] rfl rfl (.inl ⟨_, _, _, _, _, _, _, _, h, rfl⟩) (e7.of2 rfl (RV.tmp rfl) (RV.tmp rfl))
  ·replace h := j0 h hb
   refine a7 (fun _ hK_10' => ?_)
   refine a6 ?_
   refine wv (OV.eql rfl rfl) ?_
   refine wA ?_
   refine WL.nil ?_
   refine kg (hK_10' [(0, zP b), (4, zU ((s_0.getD (s_1 + 1).toNat 0).toNat : Int)), (25, zU ((s_0.getD (s_1 + 1).toNat 0).toNat : Int)), (28, zB (decide (((s_0.getD (s_1 + 1).toNat 0).toNat : Int) = 114)))] _ ?_)
   refine b8 (b := decide (((s_0.getD (s_1 + 1).toNat 0).toNat : Int) = 114)) rfl (fun hb => ?_) (fun hb => ?_)
   ·replace h := j3 h hb
    refine a7 (fun _ hK_11' => ?_)
    refine a6 ?_
    refine wA ?_
    refine wA ?_
    refine WL.nil ?_
    refine kg (hK_11' [(2, zU 13), (3, zB true)] _ ?_)
    refine c9 ?_
    exact hE.ret [0] rfl rfl (.inl ⟨_, _, _, _, _, _, _, _, h, rfl⟩) (e7.of2 rfl (RV.tmp rfl) (RV.tmp rfl))
   ·replace h := j0 h hb
    refine a7 (fun _ hK_12' => ?_)
    refine a6 ?_
    refine wv (OV.eql rfl rfl) ?_
    refine wA ?_
    refine WL.nil ?_
    refine kg (hK_12' [(0, zP b), (4, zU ((s_0.getD (s_1 + 1).toNat 0).toNat : Int)), (25, zU ((s_0.getD (s_1 + 1).toNat 0).toNat : Int)), (30, zB (decide (((s_0.getD (s_1 + 1).toNat 0).toNat : Int) = 116)))] _ ?_)
    refine b8 (b := decide (((s_0.getD (s_1 + 1).toNat 0).toNat : Int) = 116)) rfl (fun hb => ?_) (fun hb => ?_)
    ·replace h := j3 h hb
     refine a7 (fun _ hK_13' => ?_)
     refine a6 ?_
     refine wA ?_
     refine wA ?_
     refine WL.nil ?_
     refine kg (hK_13' [(2, zU 9), (3, zB true)] _ ?_)
     refine c9 ?_
     exact hE.ret [0] rfl rfl (.inl ⟨_, _, _, _, _, _, _, _, h, rfl⟩) (e7.of2 rfl (RV.tmp rfl) (RV.tmp rfl))
    ·replace h := j0 h hb
     obtain ⟨J0, hJ, h⟩ := h
     refine o9 (X := Bool) (fun σ => J0 σ) (fun σ => [(0, zP b), (4, zU ((s_0.getD (s_1 + 1).toNat 0).toNat : Int)), (25, zU ((s_0.getD (s_1 + 1).toNat 0).toNat : Int)), (32, zB σ)]) (fun σ => [HA.blk b (.cells [st s_0, zI (s_1 + 1), s_2, zI s_3, zI s_4, st s_5].toArray 100 (0, 0))]) ?_ (fun K0_15' hK_15' => ?_)
     ·rintro t32 hj
      replace h := hJ t32 hj
      show WC _ _ _ _ [(0, zP b), (4, zU ((s_0.getD (s_1 + 1).toNat 0).toNat : Int)), (25, zU ((s_0.getD (s_1 + 1).toNat 0).toNat : Int)), (32, zB t32)] [HA.blk b (.cells [st s_0, zI (s_1 + 1), s_2, zI s_3, zI s_4, st s_5].toArray 100 (0, 0))]
      refine b8 (b := t32) rfl (fun hb => ?_) (fun hb => ?_)
      ·replace h := j3 h hb
       refine a7 (fun _ hK_16' => ?_)
       refine a6 ?_
       refine wm ?_
       refine wA ?_
       refine wA ?_
       refine WL.nil ?_
       refine kg (hK_16' [(2, zU ((s_0.getD (s_1 + 1).toNat 0).toNat : Int)), (3, zB true)] _ ?_)
       refine c9 ?_
       exact hE.ret [0] rfl rfl (.inl ⟨_, _, _, _, _, _, _, _, h, rfl⟩) (e7.of2 rfl (RV.tmp rfl) (RV.tmp rfl))
      ·replace h := j0 h hb
       refine a7 (fun _ hK_17' => ?_)
       refine a6 ?_
       refine wv (OV.eql rfl rfl) ?_
       refine wA ?_
       refine WL.nil ?_
       refine kg (hK_17' [(0, zP b), (36, zB (decide (((s_0.getD (s_1 + 1).toNat 0).toNat : Int) = 120)))] _ ?_)
       refine b8 (b := decide (((s_0.getD (s_1 + 1).toNat 0).toNat : Int) = 120)) rfl (fun hb => ?_) (fun hb => ?_)
       ·replace h := j3 h hb
        refine a7 (fun _ hK_18' => ?_)
        refine a6 ?_
        refine wA ?_
        refine WL.nil ?_
        refine kg (hK_18' [(0, zP b), (5, zI 0)] _ ?_)
        refine a7 (fun _ hK_19' => ?_)
        refine a7 (fun _ hK_20' => ?_)
        refine a6 ?_
        refine wm ?_
        refine WL.nil ?_
        refine kg (hK_20' [(0, zP b), (5, zI 0), (38, zI 0)] _ ?_)
        refine c6 ?_
        refine afx 3 ?_
        refine RC.succ (fun K0_21' hK_21' => ?_)
        refine a7 (fun _ hK_22' => ?_)
        refine a6 ?_
        refine wv (OV.lss rfl rfl) ?_
        refine WL.nil ?_
        refine kg (hK_22' [(0, zP b), (5, zI 0), (38, zI 0), (39, zB true)] _ ?_)
        refine a7 (fun _ hK_23' => ?_)
        refine g8 rfl ?_
        refine c5 ?_
        refine kg (hK_23' [(0, zP b), (5, zI 0), (38, zI 0)] _ ?_)
        refine a7 (fun _ hK_24' => ?_)
        refine c6 ?_
        refine a7 (fun _ hK_25' => ?_)
        refine a6 ?_
        refine wm ?_
        refine wv (OV.nilCheck rfl) ?_
        refine wv (OV.fieldAddr0 rfl b7) ?_
        refine wv (OV.load rfl (At.own 0 rfl) rfl b9) ?_
        obtain ⟨o_2', h⟩ := h
        refine wv (OV.add rfl rfl o_2') ?_
        refine wv (OV.nilCheck rfl) ?_
        refine wv (OV.fieldAddr0 rfl b7) ?_
        refine WL.store (vs := [zI ((s_1 + 1) + 1)]) (cs' := [st s_0, zI ((s_1 + 1) + 1), s_2, zI s_3, zI s_4, st s_5]) 0 rfl rfl rfl rfl l8 (Nat.le_of_ble_eq_true rfl) rfl rfl rfl ?_
        refine WL.nil ?_
        refine kg (hK_25' [(0, zP b), (5, zI 0), (38, zI 0)] _ ?_)
        refine a7 (fun _ hK_26' => ?_)
        refine a7 (fun _ hK_27' => ?_)
        refine a6 ?_
        refine wm ?_
        refine WL.call (A := []) t6 rfl (q7 b s_0 ((s_1 + 1) + 1) s_2 s_3 s_4 s_5) rfl ⟨.inl ⟨0, rfl⟩, trivial⟩ rfl rfl ?_
        refine WL.nil ?_
        refine kg (hK_27' [(0, zP b), (5, zI 0), (38, zI 0), (48, zB (decide (s_0.length ≤ (s_1 + 1) + 1)))] _ ?_)
        refine b8 (b := decide (s_0.length ≤ (s_1 + 1) + 1)) rfl (fun hb => ?_) (fun hb => ?_)
        ·replace h := j3 h hb
         refine a7 (fun _ hK_28' => ?_)
         refine a6 ?_
         refine wA ?_
         refine wA ?_
         refine WL.nil ?_
         refine kg (hK_28' [(2, zU 0), (3, zB false)] _ ?_)
         refine c9 ?_
         exact hE.ret [0] rfl rfl (.inl ⟨_, _, _, _, _, _, _, _, h, rfl⟩) (e7.of2 rfl (RV.tmp rfl) (RV.tmp rfl))
        ·replace h := j0 h hb
         refine c5 ?_
         refine kg (hK_26' [(0, zP b), (5, zI 0), (38, zI 0)] _ ?_)
         refine a7 (fun _ hK_29' => ?_)
         refine m0 8 [] h8 (by kernel_rfl) rfl (fun T_1' hT_1' => ?_)
         refine fv (fun _ => OV.move rfl) ?_
         refine fv (fun _ => OV.nilCheck rfl) ?_
         refine fv (fun _ => OV.fieldAddr0 rfl f8) ?_
         refine fv (fun _ => OV.load rfl (At.own 0 rfl) rfl c8) ?_
         refine fv (fun _ => OV.move rfl) ?_
         refine fv (fun _ => OV.nilCheck rfl) ?_
         refine fv (fun _ => OV.fieldAddr0 rfl b7) ?_
         refine fv (fun _ => OV.load rfl (At.own 0 rfl) rfl b9) ?_
         refine FL.weak (L' := fun γ => [(0, zP b), (5, zI 0), (38, zI 0), (52, st s_0), (56, zI ((s_1 + 1) + 1))]) (fun γ => ⟨rfl, rfl, rfl, rfl, rfl, trivial⟩) (FL.nil (hT_1' (fun γ => [(0, zP b), (5, zI 0), (38, zI 0), (52, st s_0), (56, zI ((s_1 + 1) + 1))]) (fun γ => ?_)))
         obtain ⟨o_3', h⟩ := h
         refine wv (OV.index rfl rfl d5 o_3') ?_
         refine WL.call (A := []) af6 rfl (abl ([48, 49, 50, 51, 52, 53, 54, 55, 56, 57, 97, 98, 99, 100, 101, 102] : List UInt8) ((s_0.getD ((s_1 + 1) + 1).toNat 0).toNat : Int)) rfl trivial rfl rfl ?_
         refine wA ?_
         refine WL.nil ?_
         refine kg (hK_29' [(0, zP b), (5, zI 0), (6, zI (Lib.indexByte ([48, 49, 50, 51, 52, 53, 54, 55, 56, 57, 97, 98, 99, 100, 101, 102] : List UInt8) (((s_0.getD ((s_1 + 1) + 1).toNat 0).toNat : Int)).toNat.toUInt8)), (38, zI 0)] _ ?_)
         refine a7 (fun _ hK_30' => ?_)
         refine a7 (fun _ hK_31' => ?_)
         refine a6 ?_
         refine wm ?_
         refine wv (OV.lss rfl rfl) ?_
         refine WL.nil ?_
         refine kg (hK_31' [(0, zP b), (5, zI 0), (6, zI (Lib.indexByte ([48, 49, 50, 51, 52, 53, 54, 55, 56, 57, 97, 98, 99, 100, 101, 102] : List UInt8) (((s_0.getD ((s_1 + 1) + 1).toNat 0).toNat : Int)).toNat.toUInt8)), (38, zI 0), (60, zB (decide (Lib.indexByte ([48, 49, 50, 51, 52, 53, 54, 55, 56, 57, 97, 98, 99, 100, 101, 102] : List UInt8) (((s_0.getD ((s_1 + 1) + 1).toNat 0).toNat : Int)).toNat.toUInt8 < 0)))] _ ?_)
         refine b8 (b := decide (Lib.indexByte ([48, 49, 50, 51, 52, 53, 54, 55, 56, 57, 97, 98, 99, 100, 101, 102] : List UInt8) (((s_0.getD ((s_1 + 1) + 1).toNat 0).toNat : Int)).toNat.toUInt8 < 0)) rfl (fun hb => ?_) (fun hb => ?_)
         ·replace h := j3 h hb
          refine a7 (fun _ hK_32' => ?_)
          refine a6 ?_
          refine wA ?_
          refine wA ?_
          refine WL.nil ?_
          refine kg (hK_32' [(2, zU 0), (3, zB false)] _ ?_)
          refine c9 ?_
          exact hE.ret [0] rfl rfl (.inl ⟨_, _, _, _, _, _, _, _, h, rfl⟩) (e7.of2 rfl (RV.tmp rfl) (RV.tmp rfl))
         ·replace h := j0 h hb
          refine c5 ?_
          refine kg (hK_30' [(0, zP b), (5, zI 0), (6, zI (Lib.indexByte ([48, 49, 50, 51, 52, 53, 54, 55, 56, 57, 97, 98, 99, 100, 101, 102] : List UInt8) (((s_0.getD ((s_1 + 1) + 1).toNat 0).toNat : Int)).toNat.toUInt8)), (38, zI 0)] _ ?_)
          refine a6 ?_
          refine wm ?_
          refine wv (OV.mul rfl rfl ⟨by decide, by decide⟩) ?_
          refine wm ?_
          obtain ⟨o_4', h⟩ := h
          refine wv (OV.add rfl rfl o_4') ?_
          refine wA ?_
          refine WL.nil ?_
          refine kg (hK_24' [(0, zP b), (5, zI (0 + (Lib.indexByte ([48, 49, 50, 51, 52, 53, 54, 55, 56, 57, 97, 98, 99, 100, 101, 102] : List UInt8) (((s_0.getD ((s_1 + 1) + 1).toNat 0).toNat : Int)).toNat.toUInt8))), (38, zI 0)] _ ?_)
          refine a6 ?_
          refine wv (OV.add rfl rfl ⟨by decide, by decide⟩) ?_
          refine wm ?_
          refine WL.nil ?_
          refine kg (hK_21' [(0, zP b), (5, zI (0 + (Lib.indexByte ([48, 49, 50, 51, 52, 53, 54, 55, 56, 57, 97, 98, 99, 100, 101, 102] : List UInt8) (((s_0.getD ((s_1 + 1) + 1).toNat 0).toNat : Int)).toNat.toUInt8))), (38, zI 1)] _ ?_)
          refine RC.succ (fun K0_33' hK_33' => ?_)
          refine a7 (fun _ hK_34' => ?_)
          refine a6 ?_
          refine wv (OV.lss rfl rfl) ?_
          refine WL.nil ?_
          refine kg (hK_34' [(0, zP b), (5, zI (0 + (Lib.indexByte ([48, 49, 50, 51, 52, 53, 54, 55, 56, 57, 97, 98, 99, 100, 101, 102] : List UInt8) (((s_0.getD ((s_1 + 1) + 1).toNat 0).toNat : Int)).toNat.toUInt8))), (38, zI 1), (39, zB true)] _ ?_)
          refine a7 (fun _ hK_35' => ?_)
          refine g8 rfl ?_
          refine c5 ?_
          refine kg (hK_35' [(0, zP b), (5, zI (0 + (Lib.indexByte ([48, 49, 50, 51, 52, 53, 54, 55, 56, 57, 97, 98, 99, 100, 101, 102] : List UInt8) (((s_0.getD ((s_1 + 1) + 1).toNat 0).toNat : Int)).toNat.toUInt8))), (38, zI 1)] _ ?_)
          refine a7 (fun _ hK_36' => ?_)
          refine c6 ?_
          refine a7 (fun _ hK_37' => ?_)
          refine a6 ?_
          refine wm ?_
          refine wv (OV.nilCheck rfl) ?_
          refine wv (OV.fieldAddr0 rfl b7) ?_
          refine wv (OV.load rfl (At.own 0 rfl) rfl b9) ?_
          obtain ⟨o_5', h⟩ := h
          refine wv (OV.add rfl rfl o_5') ?_
          refine wv (OV.nilCheck rfl) ?_
          refine wv (OV.fieldAddr0 rfl b7) ?_
          refine WL.store (vs := [zI (((s_1 + 1) + 1) + 1)]) (cs' := [st s_0, zI (((s_1 + 1) + 1) + 1), s_2, zI s_3, zI s_4, st s_5]) 0 rfl rfl rfl rfl l8 (Nat.le_of_ble_eq_true rfl) rfl rfl rfl ?_
          refine WL.nil ?_
          refine kg (hK_37' [(0, zP b), (5, zI (0 + (Lib.indexByte ([48, 49, 50, 51, 52, 53, 54, 55, 56, 57, 97, 98, 99, 100, 101, 102] : List UInt8) (((s_0.getD ((s_1 + 1) + 1).toNat 0).toNat : Int)).toNat.toUInt8))), (38, zI 1)] _ ?_)
          refine a7 (fun _ hK_38' => ?_)
          refine a7 (fun _ hK_39' => ?_)
          refine a6 ?_
          refine wm ?_
          refine WL.call (A := []) t6 rfl (q7 b s_0 (((s_1 + 1) + 1) + 1) s_2 s_3 s_4 s_5) rfl ⟨.inl ⟨0, rfl⟩, trivial⟩ rfl rfl ?_
          refine WL.nil ?_
          refine kg (hK_39' [(0, zP b), (5, zI (0 + (Lib.indexByte ([48, 49, 50, 51, 52, 53, 54, 55, 56, 57, 97, 98, 99, 100, 101, 102] : List UInt8) (((s_0.getD ((s_1 + 1) + 1).toNat 0).toNat : Int)).toNat.toUInt8))), (38, zI 1), (48, zB (decide (s_0.length ≤ ((s_1 + 1) + 1) + 1)))] _ ?_)
          refine b8 (b := decide (s_0.length ≤ ((s_1 + 1) + 1) + 1)) rfl (fun hb => ?_) (fun hb => ?_)
          ·replace h := j3 h hb
           refine a7 (fun _ hK_40' => ?_)
           refine a6 ?_
           refine wA ?_
           refine wA ?_
           refine WL.nil ?_
           refine kg (hK_40' [(2, zU 0), (3, zB false)] _ ?_)
           refine c9 ?_
           exact hE.ret [0] rfl rfl (.inl ⟨_, _, _, _, _, _, _, _, h, rfl⟩) (e7.of2 rfl (RV.tmp rfl) (RV.tmp rfl))
          ·replace h := j0 h hb
           refine c5 ?_
           refine kg (hK_38' [(0, zP b), (5, zI (0 + (Lib.indexByte ([48, 49, 50, 51, 52, 53, 54, 55, 56, 57, 97, 98, 99, 100, 101, 102] : List UInt8) (((s_0.getD ((s_1 + 1) + 1).toNat 0).toNat : Int)).toNat.toUInt8))), (38, zI 1)] _ ?_)
           refine a7 (fun _ hK_41' => ?_)
           refine m0 8 [] h8 (by kernel_rfl) rfl (fun T_2' hT_2' => ?_)
           refine fv (fun _ => OV.move rfl) ?_
           refine fv (fun _ => OV.nilCheck rfl) ?_
           refine fv (fun _ => OV.fieldAddr0 rfl f8) ?_
           refine fv (fun _ => OV.load rfl (At.own 0 rfl) rfl c8) ?_
           refine fv (fun _ => OV.move rfl) ?_
           refine fv (fun _ => OV.nilCheck rfl) ?_
           refine fv (fun _ => OV.fieldAddr0 rfl b7) ?_
           refine fv (fun _ => OV.load rfl (At.own 0 rfl) rfl b9) ?_
           refine FL.weak (L' := fun γ => [(0, zP b), (5, zI (0 + (Lib.indexByte ([48, 49, 50, 51, 52, 53, 54, 55, 56, 57, 97, 98, 99, 100, 101, 102] : List UInt8) (((s_0.getD ((s_1 + 1) + 1).toNat 0).toNat : Int)).toNat.toUInt8))), (38, zI 1), (52, st s_0), (56, zI (((s_1 + 1) + 1) + 1))]) (fun γ => ⟨rfl, rfl, rfl, rfl, rfl, trivial⟩) (FL.nil (hT_2' (fun γ => [(0, zP b), (5, zI (0 + (Lib.indexByte ([48, 49, 50, 51, 52, 53, 54, 55, 56, 57, 97, 98, 99, 100, 101, 102] : List UInt8) (((s_0.getD ((s_1 + 1) + 1).toNat 0).toNat : Int)).toNat.toUInt8))), (38, zI 1), (52, st s_0), (56, zI (((s_1 + 1) + 1) + 1))]) (fun γ => ?_)))
           obtain ⟨o_6', h⟩ := h
           refine wv (OV.index rfl rfl d5 o_6') ?_
           refine WL.call (A := []) af6 rfl (abl ([48, 49, 50, 51, 52, 53, 54, 55, 56, 57, 97, 98, 99, 100, 101, 102] : List UInt8) ((s_0.getD (((s_1 + 1) + 1) + 1).toNat 0).toNat : Int)) rfl trivial rfl rfl ?_
           refine wA ?_
           refine WL.nil ?_
           refine kg (hK_41' [(0, zP b), (5, zI (0 + (Lib.indexByte ([48, 49, 50, 51, 52, 53, 54, 55, 56, 57, 97, 98, 99, 100, 101, 102] : List UInt8) (((s_0.getD ((s_1 + 1) + 1).toNat 0).toNat : Int)).toNat.toUInt8))), (6, zI (Lib.indexByte ([48, 49, 50, 51, 52, 53, 54, 55, 56, 57, 97, 98, 99, 100, 101, 102] : List UInt8) (((s_0.getD (((s_1 + 1) + 1) + 1).toNat 0).toNat : Int)).toNat.toUInt8)), (38, zI 1)] _ ?_)
           refine a7 (fun _ hK_42' => ?_)
           refine a7 (fun _ hK_43' => ?_)
           refine a6 ?_
           refine wm ?_
           refine wv (OV.lss rfl rfl) ?_
           refine WL.nil ?_
           refine kg (hK_43' [(0, zP b), (5, zI (0 + (Lib.indexByte ([48, 49, 50, 51, 52, 53, 54, 55, 56, 57, 97, 98, 99, 100, 101, 102] : List UInt8) (((s_0.getD ((s_1 + 1) + 1).toNat 0).toNat : Int)).toNat.toUInt8))), (6, zI (Lib.indexByte ([48, 49, 50, 51, 52, 53, 54, 55, 56, 57, 97, 98, 99, 100, 101, 102] : List UInt8) (((s_0.getD (((s_1 + 1) + 1) + 1).toNat 0).toNat : Int)).toNat.toUInt8)), (38, zI 1), (60, zB (decide (Lib.indexByte ([48, 49, 50, 51, 52, 53, 54, 55, 56, 57, 97, 98, 99, 100, 101, 102] : List UInt8) (((s_0.getD (((s_1 + 1) + 1) + 1).toNat 0).toNat : Int)).toNat.toUInt8 < 0)))] _ ?_)
           refine b8 (b := decide (Lib.indexByte ([48, 49, 50, 51, 52, 53, 54, 55, 56, 57, 97, 98, 99, 100, 101, 102] : List UInt8) (((s_0.getD (((s_1 + 1) + 1) + 1).toNat 0).toNat : Int)).toNat.toUInt8 < 0)) rfl (fun hb => ?_) (fun hb => ?_)
           ·replace h := j3 h hb
            refine a7 (fun _ hK_44' => ?_)
            refine a6 ?_
            refine wA ?_
            refine wA ?_
            refine WL.nil ?_
            refine kg (hK_44' [(2, zU 0), (3, zB false)] _ ?_)
            refine c9 ?_
            exact hE.ret [0] rfl rfl (.inl ⟨_, _, _, _, _, _, _, _, h, rfl⟩) (e7.of2 rfl (RV.tmp rfl) (RV.tmp rfl))
           ·replace h := j0 h hb
            refine c5 ?_
            refine kg (hK_42' [(0, zP b), (5, zI (0 + (Lib.indexByte ([48, 49, 50, 51, 52, 53, 54, 55, 56, 57, 97, 98, 99, 100, 101, 102] : List UInt8) (((s_0.getD ((s_1 + 1) + 1).toNat 0).toNat : Int)).toNat.toUInt8))), (6, zI (Lib.indexByte ([48, 49, 50, 51, 52, 53, 54, 55, 56, 57, 97, 98, 99, 100, 101, 102] : List UInt8) (((s_0.getD (((s_1 + 1) + 1) + 1).toNat 0).toNat : Int)).toNat.toUInt8)), (38, zI 1)] _ ?_)
            refine a6 ?_
            refine wm ?_
            obtain ⟨o_7', h⟩ := h
            refine wv (OV.mul rfl rfl o_7') ?_
            refine wm ?_
            obtain ⟨o_8', h⟩ := h
            refine wv (OV.add rfl rfl o_8') ?_
            refine wA ?_
            refine WL.nil ?_
            refine kg (hK_36' [(0, zP b), (5, zI ((16 * (0 + (Lib.indexByte ([48, 49, 50, 51, 52, 53, 54, 55, 56, 57, 97, 98, 99, 100, 101, 102] : List UInt8) (((s_0.getD ((s_1 + 1) + 1).toNat 0).toNat : Int)).toNat.toUInt8))) + (Lib.indexByte ([48, 49, 50, 51, 52, 53, 54, 55, 56, 57, 97, 98, 99, 100, 101, 102] : List UInt8) (((s_0.getD (((s_1 + 1) + 1) + 1).toNat 0).toNat : Int)).toNat.toUInt8))), (38, zI 1)] _ ?_)
            refine a6 ?_
            refine wv (OV.add rfl rfl ⟨by decide, by decide⟩) ?_
            refine wm ?_
            refine WL.nil ?_
            refine kg (hK_33' [(0, zP b), (5, zI ((16 * (0 + (Lib.indexByte ([48, 49, 50, 51, 52, 53, 54, 55, 56, 57, 97, 98, 99, 100, 101, 102] : List UInt8) (((s_0.getD ((s_1 + 1) + 1).toNat 0).toNat : Int)).toNat.toUInt8))) + (Lib.indexByte ([48, 49, 50, 51, 52, 53, 54, 55, 56, 57, 97, 98, 99, 100, 101, 102] : List UInt8) (((s_0.getD (((s_1 + 1) + 1) + 1).toNat 0).toNat : Int)).toNat.toUInt8))), (38, zI 2)] _ ?_)
            refine RC.succ (fun K0_45' hK_45' => ?_)
            refine a7 (fun _ hK_46' => ?_)
            refine a6 ?_
            refine wv (OV.lss rfl rfl) ?_
            refine WL.nil ?_
            refine kg (hK_46' [(0, zP b), (5, zI ((16 * (0 + (Lib.indexByte ([48, 49, 50, 51, 52, 53, 54, 55, 56, 57, 97, 98, 99, 100, 101, 102] : List UInt8) (((s_0.getD ((s_1 + 1) + 1).toNat 0).toNat : Int)).toNat.toUInt8))) + (Lib.indexByte ([48, 49, 50, 51, 52, 53, 54, 55, 56, 57, 97, 98, 99, 100, 101, 102] : List UInt8) (((s_0.getD (((s_1 + 1) + 1) + 1).toNat 0).toNat : Int)).toNat.toUInt8))), (38, zI 2), (39, zB false)] _ ?_)
            refine a7 (fun _ hK_47' => ?_)
            refine d6 rfl ?_
            refine p8 ?_
            refine kg (hK_19' [(5, zI ((16 * (0 + (Lib.indexByte ([48, 49, 50, 51, 52, 53, 54, 55, 56, 57, 97, 98, 99, 100, 101, 102] : List UInt8) (((s_0.getD ((s_1 + 1) + 1).toNat 0).toNat : Int)).toNat.toUInt8))) + (Lib.indexByte ([48, 49, 50, 51, 52, 53, 54, 55, 56, 57, 97, 98, 99, 100, 101, 102] : List UInt8) (((s_0.getD (((s_1 + 1) + 1) + 1).toNat 0).toNat : Int)).toNat.toUInt8)))] _ ?_)
            refine a7 (fun _ hK_48' => ?_)
            refine a6 ?_
            refine wm ?_
            refine wv (OV.conv rfl aox Tryd.underlying5) ?_
            refine wA ?_
            refine wA ?_
            refine WL.nil ?_
            refine kg (hK_48' [(2, zU (IntKind.wrap .u8 ((16 * (0 + (Lib.indexByte ([48, 49, 50, 51, 52, 53, 54, 55, 56, 57, 97, 98, 99, 100, 101, 102] : List UInt8) (((s_0.getD ((s_1 + 1) + 1).toNat 0).toNat : Int)).toNat.toUInt8))) + (Lib.indexByte ([48, 49, 50, 51, 52, 53, 54, 55, 56, 57, 97, 98, 99, 100, 101, 102] : List UInt8) (((s_0.getD (((s_1 + 1) + 1) + 1).toNat 0).toNat : Int)).toNat.toUInt8)))), (3, zB true)] _ ?_)
            refine c9 ?_
            exact hE.ret [0] rfl rfl (.inl ⟨_, _, _, _, _, _, _, _, h, rfl⟩) (e7.of2 rfl (RV.tmp rfl) (RV.tmp rfl))
       ·replace h := j0 h hb
        refine c5 ?_
        refine KX.go (hK_5' [] _ ?_) trivial
        refine a7 (fun _ hK_49' => ?_)
        refine a6 ?_
        refine wA ?_
        refine wA ?_
        refine WL.nil ?_
        refine kg (hK_49' [(2, zU 0), (3, zB false)] _ ?_)
        refine c9 ?_
        exact hE.ret [0] rfl rfl (.inl ⟨_, _, _, _, _, _, _, _, h, rfl⟩) (e7.of2 rfl (RV.tmp rfl) (RV.tmp rfl))
     ·skip
      refine a7 (fun _ hK_50' => ?_)
      refine a6 ?_
      refine wv (OV.eql rfl rfl) ?_
      refine wA ?_
      refine WL.nil ?_
      refine kg (hK_50' [(0, zP b), (4, zU ((s_0.getD (s_1 + 1).toNat 0).toNat : Int)), (25, zU ((s_0.getD (s_1 + 1).toNat 0).toNat : Int)), (32, zB (decide (((s_0.getD (s_1 + 1).toNat 0).toNat : Int) = 34)))] _ ?_)
      refine b8 (b := decide (((s_0.getD (s_1 + 1).toNat 0).toNat : Int) = 34)) rfl (fun hb => ?_) (fun hb => ?_)
      ·replace h := j3 h hb
       refine c5 ?_
       exact kh (hK_15' (decide (((s_0.getD (s_1 + 1).toNat 0).toNat : Int) = 34)) h) [0]
      ·replace h := j0 h hb
       refine a6 ?_
       refine wv (OV.eql rfl rfl) ?_
       refine wA ?_
       refine WL.nil ?_
       exact kh (hK_15' (decide (((s_0.getD (s_1 + 1).toNat 0).toNat : Int) = 92)) h) [0]
theorem amq {t : List UInt8} {a : Int} {b : Int} {ok : Bool} {q : Int} (h : abf t a = (b, ok, q)) : a + 1 ≤ q ∧ q ≤ a + 3 ∧ 0 ≤ b ∧ b < 256 ∧ (ok = true → q < t.length) ∧ (q ≤ t.length ∨ q = a + 1) := by
 have c1 := ar7 t (a + 1)
 have r2 := aee (c := bt t (a + 2))
 have r3 := aee (c := bt t (a + 3))
 unfold abf at h
 simp only at h
 repeat' split at h
 all_goals (simp only [Prod.mk.injEq] at h; obtain ⟨rfl, rfl, rfl⟩ := h; first | (refine ⟨by omega, by omega, by omega, by omega, ?_, ?_⟩ <;> first | (intro _; omega) | (intro hx; cases hx; done) | (left; omega) | (right; omega) | omega))
theorem ala (b : Nat) (t : List UInt8) (a : Int) (w : Value) (fc fa : Int) (ft : List UInt8) (h : 0 ≤ a ∧ a < t.length ∧ t.length ≤ 4096) :
  d8 Tryd.prog 73 [.pointer (some ⟨b, 0, none⟩)] [] [.blk b (scB t a w fc fa ft)] (fun o => ∃ r ok q, abf t a = (r, ok, q) ∧ o = .ret (.tuple #[.int .u8 r, .bool ok]) [.blk b (scB t q w fc fa ft)]) := by
 refine (apt b t a w fc fa ft (fun r ok t' a' w' c' p' x => abf t a = (r, ok, a') ∧ t' = t ∧ w' = w ∧ c' = fc ∧ p' = fa ∧ x = ft) ?_).weak ?_
 ·unfold af9
  have eb : ∀ i : Int, ((t.getD i.toNat 0).toNat : Int) = bt t i := fun _ => rfl
  simp only [eb, show a + 1 + 1 = a + 2 from by omega, show a + 2 + 1 = a + 3 from by omega]
  have hI : ∀ k : Int, 0 ≤ k → k ≤ 4 → I64 (a + k) := fun k _ _ => ⟨by omega, by omega⟩
  have c2 := ar7 t (a + 2)
  have c3 := ar7 t (a + 3)
  have r2 := aee (c := bt t (a + 2))
  have r3 := aee (c := bt t (a + 3))
  rw [anz _ c2, anz _ c3]
  unfold abf
  simp only
  refine ⟨hI 1 (by omega) (by omega), ?_⟩
  by_cases h1 : (t.length : Int) ≤ a + 1
  ·rw [if_pos (by simpa using h1), if_pos h1]; (refine ⟨?_, ?_, ?_, ?_, ?_, ?_⟩ <;> first | rfl | trivial)
  ·rw [if_neg (by simpa using h1)]
   simp only [if_neg h1]
   refine ⟨⟨by omega, by omega⟩, ?_⟩
   generalize bt t (a + 1) = c
   by_cases e1 : c = 110
   ·rw [if_pos (by simpa using e1)]; simp only [if_pos e1]; (refine ⟨?_, ?_, ?_, ?_, ?_, ?_⟩ <;> first | rfl | trivial)
   ·rw [if_neg (by simpa using e1)]; simp only [if_neg e1]
    by_cases e2 : c = 114
    ·rw [if_pos (by simpa using e2)]; simp only [if_pos e2]; (refine ⟨?_, ?_, ?_, ?_, ?_, ?_⟩ <;> first | rfl | trivial)
    ·rw [if_neg (by simpa using e2)]; simp only [if_neg e2]
     by_cases e3 : c = 116
     ·rw [if_pos (by simpa using e3)]; simp only [if_pos e3]; (refine ⟨?_, ?_, ?_, ?_, ?_, ?_⟩ <;> first | rfl | trivial)
     ·rw [if_neg (by simpa using e3)]; simp only [if_neg e3]
      refine ⟨fun r => r = decide (c = 34 ∨ c = 92), fun r hr => ?_, ?_⟩
      ·by_cases e4 : c = 34 ∨ c = 92
       ·rw [hr, if_pos (by simpa using e4)]; simp only [if_pos e4]; (refine ⟨?_, ?_, ?_, ?_, ?_, ?_⟩ <;> first | rfl | trivial)
       ·rw [hr, if_neg (by simpa using e4)]; simp only [if_neg e4]
        by_cases e5 : c = 120
        ·rw [if_pos (by simpa using e5)]; simp only [if_pos e5]
         refine ⟨hI 2 (by omega) (by omega), ?_⟩
         by_cases h2 : (t.length : Int) ≤ a + 2
         ·rw [if_pos (by simpa using h2)]; simp only [if_pos h2]; (refine ⟨?_, ?_, ?_, ?_, ?_, ?_⟩ <;> first | rfl | trivial)
         ·rw [if_neg (by simpa using h2)]; simp only [if_neg h2]
          refine ⟨⟨by omega, by omega⟩, ?_⟩
          by_cases h3 : aaq (bt t (a + 2)) < 0
          ·rw [if_pos (by simpa using h3)]; simp only [if_pos h3]; (refine ⟨?_, ?_, ?_, ?_, ?_, ?_⟩ <;> first | rfl | trivial)
          ·rw [if_neg (by simpa using h3)]; simp only [if_neg h3]
           refine ⟨⟨by omega, by omega⟩, hI 3 (by omega) (by omega), ?_⟩
           by_cases h4 : (t.length : Int) ≤ a + 3
           ·rw [if_pos (by simpa using h4)]; simp only [if_pos h4]; (refine ⟨?_, ?_, ?_, ?_, ?_, ?_⟩ <;> first | rfl | trivial)
           ·rw [if_neg (by simpa using h4)]; simp only [if_neg h4]
            refine ⟨⟨by omega, by omega⟩, ?_⟩
            by_cases h5 : aaq (bt t (a + 3)) < 0
            ·rw [if_pos (by simpa using h5)]; simp only [if_pos h5]; (refine ⟨?_, ?_, ?_, ?_, ?_, ?_⟩ <;> first | rfl | trivial)
            ·rw [if_neg (by simpa using h5)]; simp only [if_neg h5]
             refine ⟨⟨by omega, by omega⟩, ⟨by omega, by omega⟩, ?_, by first | rfl | trivial, by first | rfl | trivial, by first | rfl | trivial, by first | rfl | trivial, by first | rfl | trivial⟩
             rw [IntWalk.u8_in _ (by omega), Int.zero_add]
        ·rw [if_neg (by simpa using e5)]; simp only [if_neg e5]; (refine ⟨?_, ?_, ?_, ?_, ?_, ?_⟩ <;> first | rfl | trivial)
      ·by_cases e4 : c = 34
       ·simp [e4]
       ·simp [e4]
 ·rintro o (⟨r, ok, t', q, w', c', p', x, ⟨he, rfl, rfl, rfl, rfl, rfl⟩, rfl⟩ | h)
  ·exact ⟨r, ok, q, he, rfl⟩
  ·exact h.elim
end Go.Proofs.YtifajndacnfcbaaDoor
set_option maxRecDepth 100000
namespace Go.Proofs.YtifajndacnfcbaaDoor
open Go Go.RowKit
theorem l3 : slB Tryd.prog 86 5 1 = true := by kernel_rfl
theorem abg : l6 Tryd.prog 37 = true := by kernel_rfl
theorem aga : l6 Tryd.prog 72 = true := by kernel_rfl
theorem x9 : l6 Tryd.prog 60 = true := by kernel_rfl
theorem abh : agm Tryd.prog 5 = some ([zU 0], 1, 1) := by kernel_rfl
theorem ap9 : l6 Tryd.prog 73 = true := by kernel_rfl
def afz (s_0 : List UInt8) (s_1 : Int) (s_3 : Int) (s_4 : Int) (s_5 : List UInt8) (sl : List Tok) (K : Bool → (List UInt8) → Int → Int → Int → (List UInt8) → (List Tok) → Prop) : Prop :=
 (I64 (s_1 + 1)) ∧
 ∃ (Inv : (List UInt8) → Int → Prop) (mu : (List UInt8) → Int → Nat),
  Inv [] (s_1 + 1) ∧ ∀ (l_3' : List UInt8) (s_1_4' : Int), Inv l_3' s_1_4' →
   (if (!(decide (s_0.length ≤ s_1_4'))) = true then
    ∃ (J0_2' : (List UInt8) → Int → Prop),
     (∀ (l_4' : List UInt8) (s_1_5' : Int), J0_2' l_4' s_1_5' →
      (I64 (s_1_5' + 1)) ∧
      Inv l_4' (s_1_5' + 1) ∧ mu l_4' (s_1_5' + 1) < mu l_3' s_1_4') ∧
     (0 ≤ s_1_4' ∧ s_1_4' < s_0.length) ∧
     (if (decide (((s_0.getD s_1_4'.toNat 0).toNat : Int) = 34)) = true then
      (I64 (s_1_4' + 1)) ∧
      (sl.length ≤ 4096) ∧
      (
       K true s_0 (s_1_4' + 1) s_3 s_4 s_5 (sl ++ [((2 : Int), s_1, l_3')]))
     else
      (if (!(p6 ((s_0.getD s_1_4'.toNat 0).toNat : Int))) = true then
       K false s_0 s_1_4' 50 s_1_4' [] sl
      else
       (if (!decide (((s_0.getD s_1_4'.toNat 0).toNat : Int) = 92)) = true then
        (((l_3'.length + 1) + (l_3'.length + 1) / 4 + 192) * 1 ≤ 281474976710656 ∧ l_3'.length + 1 ≤ 9223372036854775807) ∧
        J0_2' (l_3' ++ [(s_0.getD s_1_4'.toNat 0)]) s_1_4'
       else
        (0 ≤ s_1_4' ∧ s_1_4' < s_0.length ∧ s_0.length ≤ 4096) ∧
        (∀ (b_17' : Int) (ok_5' : Bool) (at0_5' : Int), abf s_0 s_1_4' = (b_17', ok_5', at0_5') →
         (if (decide (s_0.length ≤ at0_5')) = true then
          K false s_0 at0_5' 51 s_1 [] sl
         else
          (if (!ok_5') = true then
           K false s_0 at0_5' 50 at0_5' [] sl
          else
           (0 ≤ b_17' ∧ b_17' < 256) ∧
           (((l_3'.length + 1) + (l_3'.length + 1) / 4 + 192) * 1 ≤ 281474976710656 ∧ l_3'.length + 1 ≤ 9223372036854775807) ∧
           J0_2' (l_3' ++ [(b_17').toNat.toUInt8]) at0_5'))))))
   else
    K false s_0 s_1_4' 51 s_1 [] sl)
theorem apn (b : Nat) (w : Value) (s_0 : List UInt8) (s_1 : Int) (s_3 : Int) (s_4 : Int) (s_5 : List UInt8) (sl : List Tok) (K : Bool → (List UInt8) → Int → Int → Int → (List UInt8) → (List Tok) → Prop) (h : afz s_0 s_1 s_3 s_4 s_5 sl K) :
  d8 Tryd.prog 61 [zP b] [] [HA.blk b (.cells [st s_0, zI s_1, w, zI s_3, zI s_4, st s_5].toArray 100 (0, 0)), HA.row w 102 3 sl.length (sl.flatMap f9)] (fun o => (∃ (v : Bool) (d_1' : List UInt8) (d_2' : Int) (d_3' : Int) (d_4' : Int) (d_5' : List UInt8) (w_24' : Value) (d : List Tok), K v d_1' d_2' d_3' d_4' d_5' d ∧ o = .ret (zB v) [HA.blk b (.cells [st d_1', zI d_2', w_24', zI d_3', zI d_4', st d_5'].toArray 100 (0, 0)), HA.row w_24' 102 3 d.length (d.flatMap f9)]) ∨ (False)) := by
 unfold afz at h
 refine c7 (n := 95) (L0 := [(0, zP b)]) Tryd.func61 rfl rfl rfl rfl (fun w0 M Q hE => ?_)
 refine a7 (fun _ hK => ?_)
 refine a6 ?_
 refine wA ?_
 refine WL.nil ?_
 refine kg (hK [(0, zP b)] _ ?_)
 refine a7 (fun _ hK_1' => ?_)
 refine a6 ?_
 refine wm ?_
 refine wv (OV.nilCheck rfl) ?_
 refine wv (OV.fieldAddr0 rfl b7) ?_
 refine wv (OV.load rfl (At.own 0 rfl) rfl b9) ?_
 refine wA ?_
 refine WL.nil ?_
 refine kg (hK_1' [(0, zP b), (3, zI s_1)] _ ?_)
 refine a7 (fun _ hK_2' => ?_)
 refine a6 ?_
 refine wA ?_
 refine WL.nilRow 5 1 k5 ?_
 refine WL.nil ?_
 refine kg (hK_2' [(0, zP b), (3, zI s_1), (4, Value.slice none 0 0)] _ ?_)
 refine a7 (fun _ hK_3' => ?_)
 refine a7 (fun _ hK_4' => ?_)
 refine a6 ?_
 refine wm ?_
 refine wv (OV.nilCheck rfl) ?_
 refine wv (OV.fieldAddr0 rfl b7) ?_
 refine wv (OV.load rfl (At.own 1 rfl) rfl b9) ?_
 obtain ⟨o, h⟩ := h
 refine wv (OV.add rfl rfl o) ?_
 refine wv (OV.nilCheck rfl) ?_
 refine wv (OV.fieldAddr0 rfl b7) ?_
 refine WL.store (vs := [zI (s_1 + 1)]) (cs' := [st s_0, zI (s_1 + 1), w, zI s_3, zI s_4, st s_5]) 1 rfl rfl rfl rfl l8 (Nat.le_of_ble_eq_true rfl) rfl rfl rfl ?_
 refine WL.nil ?_
 refine kg (hK_4' [(0, zP b), (3, zI s_1), (4, Value.slice none 0 0)] _ ?_)
 refine c6 ?_
 obtain ⟨Inv, mu, h0, hr⟩ := h
 refine w9 (S := Value × (List UInt8) × Int) (fun σ => Inv σ.2.1 σ.2.2) (fun σ => mu σ.2.1 σ.2.2) (fun σ => [(0, zP b), (3, zI s_1), (4, σ.1)]) (fun σ => [HA.row σ.1 5 1 σ.2.1.length (σ.2.1.flatMap k5), HA.blk b (.cells [st s_0, zI σ.2.2, w, zI s_3, zI s_4, st s_5].toArray 100 (0, 0)), HA.row w 102 3 sl.length (sl.flatMap f9)]) (Value.slice none 0 0, [], s_1 + 1) h0 ⟨rfl, rfl, rfl, trivial⟩ rfl ?_
 rintro ⟨w_16', l_3', s_1_4'⟩ hi K0_75' hK_75'
 have h := hr l_3' s_1_4' hi
 show WC _ _ _ _ [(0, zP b), (3, zI s_1), (4, w_16')] [HA.row w_16' 5 1 l_3'.length (l_3'.flatMap k5), HA.blk b (.cells [st s_0, zI s_1_4', w, zI s_3, zI s_4, st s_5].toArray 100 (0, 0)), HA.row w 102 3 sl.length (sl.flatMap f9)]
 refine a7 (fun _ hK_76' => ?_)
 refine a7 (fun _ hK_77' => ?_)
 refine a6 ?_
 refine wm ?_
 refine WL.call (A := []) t6 rfl (q7 b s_0 s_1_4' w s_3 s_4 s_5) rfl ⟨.inl ⟨1, rfl⟩, trivial⟩ rfl rfl ?_
 refine wv (OV.not rfl) ?_
 refine WL.nil ?_
 refine kg (hK_77' [(0, zP b), (3, zI s_1), (4, w_16'), (21, zB (!(decide (s_0.length ≤ s_1_4'))))] _ ?_)
 refine b8 (b := !(decide (s_0.length ≤ s_1_4'))) rfl (fun hb => ?_) (fun hb => ?_)
 ·replace h := j3 h hb
  refine c5 ?_
  refine kg (hK_76' [(0, zP b), (3, zI s_1), (4, w_16')] _ ?_)
  obtain ⟨J0_2', hJ_2', h⟩ := h
  refine o9 (X := Value × (List UInt8) × Int) (fun σ => J0_2' σ.2.1 σ.2.2) (fun σ => [(0, zP b), (3, zI s_1), (4, σ.1)]) (fun σ => [HA.row σ.1 5 1 σ.2.1.length (σ.2.1.flatMap k5), HA.blk b (.cells [st s_0, zI σ.2.2, w, zI s_3, zI s_4, st s_5].toArray 100 (0, 0)), HA.row w 102 3 sl.length (sl.flatMap f9)]) ?_ (fun K0_94' hK_94' => ?_)
  ·rintro ⟨w_20', l_4', s_1_5'⟩ hj
   replace h := hJ_2' l_4' s_1_5' hj
   show WC _ _ _ _ [(0, zP b), (3, zI s_1), (4, w_20')] [HA.row w_20' 5 1 l_4'.length (l_4'.flatMap k5), HA.blk b (.cells [st s_0, zI s_1_5', w, zI s_3, zI s_4, st s_5].toArray 100 (0, 0)), HA.row w 102 3 sl.length (sl.flatMap f9)]
   refine a6 ?_
   refine wm ?_
   refine wv (OV.nilCheck rfl) ?_
   refine wv (OV.fieldAddr0 rfl b7) ?_
   refine wv (OV.load rfl (At.own 1 rfl) rfl b9) ?_
   obtain ⟨o_38', h⟩ := h
   refine wv (OV.add rfl rfl o_38') ?_
   refine wv (OV.nilCheck rfl) ?_
   refine wv (OV.fieldAddr0 rfl b7) ?_
   refine WL.store (vs := [zI (s_1_5' + 1)]) (cs' := [st s_0, zI (s_1_5' + 1), w, zI s_3, zI s_4, st s_5]) 1 rfl rfl rfl rfl l8 (Nat.le_of_ble_eq_true rfl) rfl rfl rfl ?_
   refine WL.nil ?_
   exact kh (hK_75' (w_20', l_4', s_1_5' + 1) h.1 h.2) [0, 1, 2]
  ·skip
   refine c6 ?_
   refine a7 (fun _ hK_95' => ?_)
   refine m0 8 [] h8 (by kernel_rfl) rfl (fun T_5' hT_5' => ?_)
   refine fv (fun _ => OV.move rfl) ?_
   refine fv (fun _ => OV.nilCheck rfl) ?_
   refine fv (fun _ => OV.fieldAddr0 rfl f8) ?_
   refine fv (fun _ => OV.load rfl (At.own 1 rfl) rfl c8) ?_
   refine fv (fun _ => OV.move rfl) ?_
   refine fv (fun _ => OV.nilCheck rfl) ?_
   refine fv (fun _ => OV.fieldAddr0 rfl b7) ?_
   refine fv (fun _ => OV.load rfl (At.own 1 rfl) rfl b9) ?_
   refine FL.weak (L' := fun γ => [(0, zP b), (3, zI s_1), (4, w_16'), (32, st s_0), (36, zI s_1_4')]) (fun γ => ⟨rfl, rfl, rfl, rfl, rfl, trivial⟩) (FL.nil (hT_5' (fun γ => [(0, zP b), (3, zI s_1), (4, w_16'), (32, st s_0), (36, zI s_1_4')]) (fun γ => ?_)))
   obtain ⟨o_39', h⟩ := h
   refine wv (OV.index rfl rfl d5 o_39') ?_
   refine wA ?_
   refine WL.nil ?_
   refine kg (hK_95' [(0, zP b), (3, zI s_1), (4, w_16'), (5, zU ((s_0.getD s_1_4'.toNat 0).toNat : Int))] _ ?_)
   refine a7 (fun _ hK_96' => ?_)
   refine c6 ?_
   refine a7 (fun _ hK_97' => ?_)
   refine a6 ?_
   refine wm ?_
   refine wv (OV.eql rfl rfl) ?_
   refine wA ?_
   refine WL.nil ?_
   refine kg (hK_97' [(0, zP b), (3, zI s_1), (4, w_16'), (5, zU ((s_0.getD s_1_4'.toNat 0).toNat : Int)), (38, zB (decide (((s_0.getD s_1_4'.toNat 0).toNat : Int) = 34)))] _ ?_)
   refine b8 (b := decide (((s_0.getD s_1_4'.toNat 0).toNat : Int) = 34)) rfl (fun hb => ?_) (fun hb => ?_)
   ·replace h := j3 h hb
    refine a7 (fun _ hK_98' => ?_)
    refine a6 ?_
    refine wm ?_
    refine wv (OV.nilCheck rfl) ?_
    refine wv (OV.fieldAddr0 rfl b7) ?_
    refine wv (OV.load rfl (At.own 1 rfl) rfl b9) ?_
    obtain ⟨o_40', h⟩ := h
    refine wv (OV.add rfl rfl o_40') ?_
    refine wv (OV.nilCheck rfl) ?_
    refine wv (OV.fieldAddr0 rfl b7) ?_
    refine WL.store (vs := [zI (s_1_4' + 1)]) (cs' := [st s_0, zI (s_1_4' + 1), w, zI s_3, zI s_4, st s_5]) 1 rfl rfl rfl rfl l8 (Nat.le_of_ble_eq_true rfl) rfl rfl rfl ?_
    refine WL.nil ?_
    refine kg (hK_98' [(0, zP b), (3, zI s_1), (4, w_16')] _ ?_)
    refine a7 (fun _ hK_99' => ?_)
    refine a6 ?_
    refine wm ?_
    refine wm ?_
    refine wm ?_
    refine wv (OV.bytesRow (l := l_3') 0 rfl rfl l3 Tryd.underlying5 d5) ?_
    obtain ⟨o_41', h⟩ := h
    refine WL.pick (H' := [HA.blk b (.cells [st s_0, zI (s_1_4' + 1), w, zI s_3, zI s_4, st s_5].toArray 100 (0, 0)), HA.row w 102 3 sl.length (sl.flatMap f9), HA.row w_16' 5 1 l_3'.length (l_3'.flatMap k5)]) [1, 2, 0] rfl rfl ?_
    refine WL.callS abg rfl (acj b s_0 (s_1_4' + 1) w s_3 s_4 s_5 sl 2 s_1 l_3' o_41') rfl trivial rfl rfl (fun r H' hS => ?_) (fun c H' hS => ?_)
    ·obtain ⟨w_21', ho⟩ := hS
     cases ho
     refine wA ?_
     refine WL.nil ?_
     refine kg (hK_99' [(2, zB true)] _ ?_)
     refine c9 ?_
     exact hE.ret [0, 1] rfl rfl (.inl ⟨_, _, _, _, _, _, _, _, h, rfl⟩) (e7.of1 rfl (RV.tmp rfl))
    ·obtain ⟨w_21', ho⟩ := hS
     cases ho
   ·replace h := j0 h hb
    refine a7 (fun _ hK_100' => ?_)
    refine a6 ?_
    refine wm ?_
    refine WL.call (A := []) aga rfl (aah ((s_0.getD s_1_4'.toNat 0).toNat : Int)) rfl trivial rfl rfl ?_
    refine wv (OV.not rfl) ?_
    refine wA ?_
    refine WL.nil ?_
    refine kg (hK_100' [(0, zP b), (3, zI s_1), (4, w_16'), (5, zU ((s_0.getD s_1_4'.toNat 0).toNat : Int)), (53, zB (!(p6 ((s_0.getD s_1_4'.toNat 0).toNat : Int))))] _ ?_)
    refine b8 (b := !(p6 ((s_0.getD s_1_4'.toNat 0).toNat : Int))) rfl (fun hb => ?_) (fun hb => ?_)
    ·replace h := j3 h hb
     refine a7 (fun _ hK_101' => ?_)
     refine a6 ?_
     refine wm ?_
     refine wm ?_
     refine wv (OV.nilCheck rfl) ?_
     refine wv (OV.fieldAddr0 rfl b7) ?_
     refine wv (OV.load rfl (At.own 1 rfl) rfl b9) ?_
     refine WL.pick (H' := [HA.blk b (.cells [st s_0, zI s_1_4', w, zI s_3, zI s_4, st s_5].toArray 100 (0, 0)), HA.row w_16' 5 1 l_3'.length (l_3'.flatMap k5), HA.row w 102 3 sl.length (sl.flatMap f9)]) [1, 0, 2] rfl rfl ?_
     refine WL.call x9 rfl (x4 b s_0 s_1_4' w s_3 s_4 s_5 50 s_1_4') rfl trivial rfl rfl ?_
     refine wA ?_
     refine WL.nil ?_
     refine kg (hK_101' [(2, zB false)] _ ?_)
     refine c9 ?_
     exact hE.ret [0, 2] rfl rfl (.inl ⟨_, _, _, _, _, _, _, _, h, rfl⟩) (e7.of1 rfl (RV.tmp rfl))
    ·replace h := j0 h hb
     refine a7 (fun _ hK_102' => ?_)
     refine a6 ?_
     refine wm ?_
     refine wv (OV.neq rfl rfl) ?_
     refine wA ?_
     refine WL.nil ?_
     refine kg (hK_102' [(0, zP b), (3, zI s_1), (4, w_16'), (5, zU ((s_0.getD s_1_4'.toNat 0).toNat : Int)), (63, zB (!decide (((s_0.getD s_1_4'.toNat 0).toNat : Int) = 92)))] _ ?_)
     refine b8 (b := !decide (((s_0.getD s_1_4'.toNat 0).toNat : Int) = 92)) rfl (fun hb => ?_) (fun hb => ?_)
     ·replace h := j3 h hb
      refine a7 (fun _ hK_103' => ?_)
      refine a6 ?_
      refine wm ?_
      refine wm ?_
      refine WL.make (MV.buildSlice (cs := [zU ((s_0.getD s_1_4'.toNat 0).toNat : Int)]) rfl l3 (by kernel_rfl)) rfl rfl rfl (fun b_16' => ?_)
      obtain ⟨o_42', h⟩ := h
      refine WL.append (f := k5) (ms := [(s_0.getD s_1_4'.toNat 0)]) 1 0 rfl rfl rfl rfl rfl rfl aaj (by decide) rfl l3 abh rfl o_42' rfl rfl (fun w_22' => ?_)
      refine wA ?_
      refine WL.nil ?_
      refine kg (hK_103' [(0, zP b), (3, zI s_1), (4, w_22')] _ ?_)
      refine p8 ?_
      exact kh (hK_94' (w_22', l_3' ++ [(s_0.getD s_1_4'.toNat 0)], s_1_4') h) [1, 2, 3]
     ·replace h := j0 h hb
      refine c5 ?_
      refine kg (hK_96' [(0, zP b), (3, zI s_1), (4, w_16')] _ ?_)
      refine a7 (fun _ hK_104' => ?_)
      refine a6 ?_
      refine wm ?_
      obtain ⟨o_43', h⟩ := h
      refine WL.pick (H' := [HA.blk b (.cells [st s_0, zI s_1_4', w, zI s_3, zI s_4, st s_5].toArray 100 (0, 0)), HA.row w_16' 5 1 l_3'.length (l_3'.flatMap k5), HA.row w 102 3 sl.length (sl.flatMap f9)]) [1, 0, 2] rfl rfl ?_
      refine WL.callS ap9 rfl (ala b s_0 s_1_4' w s_3 s_4 s_5 o_43') rfl trivial rfl rfl (fun r H' hS => ?_) (fun c H' hS => ?_)
      ·obtain ⟨b_17', ok_5', at0_5', hc, ho⟩ := hS
       cases ho
       replace h := h b_17' ok_5' at0_5' hc
       refine wm ?_
       refine wv (OV.extract 0 rfl rfl) ?_
       refine wv (OV.extract 1 rfl rfl) ?_
       refine wA ?_
       refine wA ?_
       refine WL.nil ?_
       refine kg (hK_104' [(0, zP b), (3, zI s_1), (4, w_16'), (6, zU b_17'), (7, zB ok_5')] _ ?_)
       refine a7 (fun _ hK_105' => ?_)
       refine a7 (fun _ hK_106' => ?_)
       refine a6 ?_
       refine wm ?_
       refine WL.call (A := []) t6 rfl (q7 b s_0 at0_5' w s_3 s_4 s_5) rfl ⟨.inl ⟨0, rfl⟩, trivial⟩ rfl rfl ?_
       refine WL.nil ?_
       refine kg (hK_106' [(0, zP b), (3, zI s_1), (4, w_16'), (6, zU b_17'), (7, zB ok_5'), (76, zB (decide (s_0.length ≤ at0_5')))] _ ?_)
       refine b8 (b := decide (s_0.length ≤ at0_5')) rfl (fun hb => ?_) (fun hb => ?_)
       ·replace h := j3 h hb
        refine a7 (fun _ hK_107' => ?_)
        refine a6 ?_
        refine wm ?_
        refine wm ?_
        refine WL.call x9 rfl (x4 b s_0 at0_5' w s_3 s_4 s_5 51 s_1) rfl trivial rfl rfl ?_
        refine wA ?_
        refine WL.nil ?_
        refine kg (hK_107' [(2, zB false)] _ ?_)
        refine c9 ?_
        exact hE.ret [0, 2] rfl rfl (.inl ⟨_, _, _, _, _, _, _, _, h, rfl⟩) (e7.of1 rfl (RV.tmp rfl))
       ·replace h := j0 h hb
        refine c5 ?_
        refine kg (hK_105' [(0, zP b), (3, zI s_1), (4, w_16'), (6, zU b_17'), (7, zB ok_5')] _ ?_)
        refine a7 (fun _ hK_108' => ?_)
        refine a7 (fun _ hK_109' => ?_)
        refine a6 ?_
        refine wm ?_
        refine wv (OV.not rfl) ?_
        refine WL.nil ?_
        refine kg (hK_109' [(0, zP b), (3, zI s_1), (4, w_16'), (6, zU b_17'), (81, zB (!ok_5'))] _ ?_)
        refine b8 (b := !ok_5') rfl (fun hb => ?_) (fun hb => ?_)
        ·replace h := j3 h hb
         refine a7 (fun _ hK_110' => ?_)
         refine a6 ?_
         refine wm ?_
         refine wm ?_
         refine wv (OV.nilCheck rfl) ?_
         refine wv (OV.fieldAddr0 rfl b7) ?_
         refine wv (OV.load rfl (At.own 0 rfl) rfl b9) ?_
         refine WL.call x9 rfl (x4 b s_0 at0_5' w s_3 s_4 s_5 50 at0_5') rfl trivial rfl rfl ?_
         refine wA ?_
         refine WL.nil ?_
         refine kg (hK_110' [(2, zB false)] _ ?_)
         refine c9 ?_
         exact hE.ret [0, 2] rfl rfl (.inl ⟨_, _, _, _, _, _, _, _, h, rfl⟩) (e7.of1 rfl (RV.tmp rfl))
        ·replace h := j0 h hb
         refine c5 ?_
         refine kg (hK_108' [(0, zP b), (3, zI s_1), (4, w_16'), (6, zU b_17')] _ ?_)
         refine a6 ?_
         refine wm ?_
         refine wm ?_
         refine WL.make (MV.buildSlice (cs := [zU b_17']) rfl l3 (by kernel_rfl)) rfl rfl rfl (fun b_18' => ?_)
         obtain ⟨o_44', h⟩ := h
         obtain ⟨o_45', h⟩ := h
         refine WL.append (f := k5) (ms := [(b_17').toNat.toUInt8]) 2 0 rfl rfl rfl rfl (aoy o_44') rfl aaj (by decide) rfl l3 abh rfl o_45' rfl rfl (fun w_23' => ?_)
         refine wA ?_
         refine WL.nil ?_
         exact kh (hK_94' (w_23', l_3' ++ [(b_17').toNat.toUInt8], at0_5') h) [2, 1, 3]
      ·obtain ⟨b_17', ok_5', at0_5', hc, ho⟩ := hS
       cases ho
 ·replace h := j0 h hb
  refine p8 ?_
  refine kg (hK_3' [(0, zP b), (3, zI s_1)] _ ?_)
  refine a7 (fun _ hK_111' => ?_)
  refine a6 ?_
  refine wm ?_
  refine wm ?_
  refine WL.pick (H' := [HA.blk b (.cells [st s_0, zI s_1_4', w, zI s_3, zI s_4, st s_5].toArray 100 (0, 0)), HA.row w_16' 5 1 l_3'.length (l_3'.flatMap k5), HA.row w 102 3 sl.length (sl.flatMap f9)]) [1, 0, 2] rfl rfl ?_
  refine WL.call x9 rfl (x4 b s_0 s_1_4' w s_3 s_4 s_5 51 s_1) rfl trivial rfl rfl ?_
  refine wA ?_
  refine WL.nil ?_
  refine kg (hK_111' [(2, zB false)] _ ?_)
  refine c9 ?_
  exact hE.ret [0, 2] rfl rfl (.inl ⟨_, _, _, _, _, _, _, _, h, rfl⟩) (e7.of1 rfl (RV.tmp rfl))
def ahx (s_0 : List UInt8) (s_1 : Int) (s_3 : Int) (s_4 : Int) (s_5 : List UInt8) (sl : List Tok) (K : Bool → (List UInt8) → Int → Int → Int → (List UInt8) → (List Tok) → Prop) : Prop :=
 (I64 (s_1 + 1)) ∧
 ∃ (Inv : Int → Prop) (mu : Int → Nat),
  Inv (s_1 + 1) ∧ ∀ (s_1_4' : Int), Inv s_1_4' →
   (if (!(decide (s_0.length ≤ s_1_4'))) = true then
    (0 ≤ s_1_4' ∧ s_1_4' < s_0.length) ∧
    ∃ (J0_2' : Int → Int → Prop),
     (∀ (c_2' : Int) (s_1_5' : Int), J0_2' c_2' s_1_5' →
      (if (!(p6 c_2')) = true then
       K false s_0 s_1_5' 50 s_1_5' [] sl
      else
       (if (decide (c_2' = 47)) = true then
        (I64 (s_1_5' + 1)) ∧
        (I64 (s_1 + 1)) ∧
        (I64 ((s_1_5' + 1) - 1)) ∧
        (0 ≤ (s_1 + 1) ∧ (s_1 + 1) ≤ ((s_1_5' + 1) - 1) ∧ ((s_1_5' + 1) - 1) ≤ s_0.length) ∧
        (sl.length ≤ 4096) ∧
        (
         K true s_0 (s_1_5' + 1) s_3 s_4 s_5 (sl ++ [((3 : Int), s_1, (s_0.drop (s_1 + 1).toNat).take (((s_1_5' + 1) - 1).toNat - (s_1 + 1).toNat))]))
       else
        (I64 (s_1_5' + 1)) ∧
        Inv (s_1_5' + 1) ∧ mu (s_1_5' + 1) < mu s_1_4'))) ∧
     ((decide (((s_0.getD s_1_4'.toNat 0).toNat : Int) = 92)) = true → (I64 (s_1_4' + 1))) ∧
     (if ((decide (((s_0.getD s_1_4'.toNat 0).toNat : Int) = 92)) && (decide (s_1_4' + 1 < (s_0.length : Int)))) = true then
      (I64 (s_1_4' + 1)) ∧
      (0 ≤ (s_1_4' + 1) ∧ (s_1_4' + 1) < s_0.length) ∧
      (if (!(p6 ((s_0.getD (s_1_4' + 1).toNat 0).toNat : Int))) = true then
       K false s_0 (s_1_4' + 1) 50 (s_1_4' + 1) [] sl
      else
       J0_2' 32 (s_1_4' + 1))
     else
      J0_2' ((s_0.getD s_1_4'.toNat 0).toNat : Int) s_1_4')
   else
    K false s_0 s_1_4' 52 s_1 [] sl)
theorem aq5 (b : Nat) (w : Value) (s_0 : List UInt8) (s_1 : Int) (s_3 : Int) (s_4 : Int) (s_5 : List UInt8) (sl : List Tok) (K : Bool → (List UInt8) → Int → Int → Int → (List UInt8) → (List Tok) → Prop) (h : ahx s_0 s_1 s_3 s_4 s_5 sl K) :
  d8 Tryd.prog 62 [zP b] [] [HA.blk b (.cells [st s_0, zI s_1, w, zI s_3, zI s_4, st s_5].toArray 100 (0, 0)), HA.row w 102 3 sl.length (sl.flatMap f9)] (fun o => (∃ (v : Bool) (d_1' : List UInt8) (d_2' : Int) (d_3' : Int) (d_4' : Int) (d_5' : List UInt8) (w_4' : Value) (d : List Tok), K v d_1' d_2' d_3' d_4' d_5' d ∧ o = .ret (zB v) [HA.blk b (.cells [st d_1', zI d_2', w_4', zI d_3', zI d_4', st d_5'].toArray 100 (0, 0)), HA.row w_4' 102 3 d.length (d.flatMap f9)]) ∨ (False)) := by
 unfold ahx at h
 refine c7 (n := 112) (L0 := [(0, zP b)]) Tryd.func62 rfl rfl rfl rfl (fun w0 M Q hE => ?_)
 refine a7 (fun _ hK => ?_)
 refine a6 ?_
 refine wA ?_
 refine WL.nil ?_
 refine kg (hK [(0, zP b)] _ ?_)
 refine a7 (fun _ hK_1' => ?_)
 refine a6 ?_
 refine wm ?_
 refine wv (OV.nilCheck rfl) ?_
 refine wv (OV.fieldAddr0 rfl b7) ?_
 refine wv (OV.load rfl (At.own 0 rfl) rfl b9) ?_
 refine wA ?_
 refine WL.nil ?_
 refine kg (hK_1' [(0, zP b), (3, zI s_1)] _ ?_)
 refine a7 (fun _ hK_2' => ?_)
 refine a7 (fun _ hK_3' => ?_)
 refine a6 ?_
 refine wm ?_
 refine wv (OV.nilCheck rfl) ?_
 refine wv (OV.fieldAddr0 rfl b7) ?_
 refine wv (OV.load rfl (At.own 0 rfl) rfl b9) ?_
 obtain ⟨o, h⟩ := h
 refine wv (OV.add rfl rfl o) ?_
 refine wv (OV.nilCheck rfl) ?_
 refine wv (OV.fieldAddr0 rfl b7) ?_
 refine WL.store (vs := [zI (s_1 + 1)]) (cs' := [st s_0, zI (s_1 + 1), w, zI s_3, zI s_4, st s_5]) 0 rfl rfl rfl rfl l8 (Nat.le_of_ble_eq_true rfl) rfl rfl rfl ?_
 refine WL.nil ?_
 refine kg (hK_3' [(0, zP b), (3, zI s_1)] _ ?_)
 refine c6 ?_
 obtain ⟨Inv, mu, h0, hr⟩ := h
 refine w9 (S := Int) (fun σ => Inv σ) (fun σ => mu σ) (fun σ => [(0, zP b), (3, zI s_1)]) (fun σ => [HA.blk b (.cells [st s_0, zI σ, w, zI s_3, zI s_4, st s_5].toArray 100 (0, 0)), HA.row w 102 3 sl.length (sl.flatMap f9)]) (s_1 + 1) h0 ⟨rfl, rfl, trivial⟩ rfl ?_
 rintro s_1_4' hi K0_48' hK_48'
 have h := hr s_1_4' hi
 show WC _ _ _ _ [(0, zP b), (3, zI s_1)] [HA.blk b (.cells [st s_0, zI s_1_4', w, zI s_3, zI s_4, st s_5].toArray 100 (0, 0)), HA.row w 102 3 sl.length (sl.flatMap f9)]
 refine a7 (fun _ hK_49' => ?_)
 refine a7 (fun _ hK_50' => ?_)
 refine a6 ?_
 refine wm ?_
 refine WL.call (A := []) t6 rfl (q7 b s_0 s_1_4' w s_3 s_4 s_5) rfl ⟨.inl ⟨0, rfl⟩, trivial⟩ rfl rfl ?_
 refine wv (OV.not rfl) ?_
 refine WL.nil ?_
 refine kg (hK_50' [(0, zP b), (3, zI s_1), (18, zB (!(decide (s_0.length ≤ s_1_4'))))] _ ?_)
 refine b8 (b := !(decide (s_0.length ≤ s_1_4'))) rfl (fun hb => ?_) (fun hb => ?_)
 ·replace h := j3 h hb
  refine c5 ?_
  refine kg (hK_49' [(0, zP b), (3, zI s_1)] _ ?_)
  refine a7 (fun _ hK_51' => ?_)
  refine c6 ?_
  refine a7 (fun _ hK_52' => ?_)
  refine m0 8 [] h8 (by kernel_rfl) rfl (fun T_12' hT_12' => ?_)
  refine fv (fun _ => OV.move rfl) ?_
  refine fv (fun _ => OV.nilCheck rfl) ?_
  refine fv (fun _ => OV.fieldAddr0 rfl f8) ?_
  refine fv (fun _ => OV.load rfl (At.own 0 rfl) rfl c8) ?_
  refine fv (fun _ => OV.move rfl) ?_
  refine fv (fun _ => OV.nilCheck rfl) ?_
  refine fv (fun _ => OV.fieldAddr0 rfl b7) ?_
  refine fv (fun _ => OV.load rfl (At.own 0 rfl) rfl b9) ?_
  refine FL.weak (L' := fun γ => [(0, zP b), (3, zI s_1), (29, st s_0), (33, zI s_1_4')]) (fun γ => ⟨rfl, rfl, rfl, rfl, trivial⟩) (FL.nil (hT_12' (fun γ => [(0, zP b), (3, zI s_1), (29, st s_0), (33, zI s_1_4')]) (fun γ => ?_)))
  obtain ⟨o_31', h⟩ := h
  refine wv (OV.index rfl rfl d5 o_31') ?_
  refine wA ?_
  refine WL.nil ?_
  refine kg (hK_52' [(0, zP b), (3, zI s_1), (4, zU ((s_0.getD s_1_4'.toNat 0).toNat : Int))] _ ?_)
  obtain ⟨J0_2', hJ_2', h⟩ := h
  refine o9 (X := Int × Int) (fun σ => J0_2' σ.1 σ.2) (fun σ => [(0, zP b), (3, zI s_1), (4, zU σ.1)]) (fun σ => [HA.blk b (.cells [st s_0, zI σ.2, w, zI s_3, zI s_4, st s_5].toArray 100 (0, 0)), HA.row w 102 3 sl.length (sl.flatMap f9)]) ?_ (fun K0_59' hK_59' => ?_)
  ·rintro ⟨c_2', s_1_5'⟩ hj
   replace h := hJ_2' c_2' s_1_5' hj
   show WC _ _ _ _ [(0, zP b), (3, zI s_1), (4, zU c_2')] [HA.blk b (.cells [st s_0, zI s_1_5', w, zI s_3, zI s_4, st s_5].toArray 100 (0, 0)), HA.row w 102 3 sl.length (sl.flatMap f9)]
   refine c6 ?_
   refine a7 (fun _ hK_60' => ?_)
   refine a6 ?_
   refine wm ?_
   refine WL.call (A := []) aga rfl (aah c_2') rfl trivial rfl rfl ?_
   refine wv (OV.not rfl) ?_
   refine wA ?_
   refine WL.nil ?_
   refine kg (hK_60' [(0, zP b), (3, zI s_1), (4, zU c_2'), (74, zB (!(p6 c_2')))] _ ?_)
   refine b8 (b := !(p6 c_2')) rfl (fun hb => ?_) (fun hb => ?_)
   ·replace h := j3 h hb
    refine a7 (fun _ hK_61' => ?_)
    refine a6 ?_
    refine wm ?_
    refine wm ?_
    refine wv (OV.nilCheck rfl) ?_
    refine wv (OV.fieldAddr0 rfl b7) ?_
    refine wv (OV.load rfl (At.own 0 rfl) rfl b9) ?_
    refine WL.call x9 rfl (x4 b s_0 s_1_5' w s_3 s_4 s_5 50 s_1_5') rfl trivial rfl rfl ?_
    refine wA ?_
    refine WL.nil ?_
    refine kg (hK_61' [(2, zB false)] _ ?_)
    refine c9 ?_
    exact hE.ret [0, 1] rfl rfl (.inl ⟨_, _, _, _, _, _, _, _, h, rfl⟩) (e7.of1 rfl (RV.tmp rfl))
   ·replace h := j0 h hb
    refine a7 (fun _ hK_62' => ?_)
    refine a6 ?_
    refine wm ?_
    refine wv (OV.eql rfl rfl) ?_
    refine wA ?_
    refine WL.nil ?_
    refine kg (hK_62' [(0, zP b), (3, zI s_1), (84, zB (decide (c_2' = 47)))] _ ?_)
    refine b8 (b := decide (c_2' = 47)) rfl (fun hb => ?_) (fun hb => ?_)
    ·replace h := j3 h hb
     refine a7 (fun _ hK_63' => ?_)
     refine a6 ?_
     refine wm ?_
     refine wv (OV.nilCheck rfl) ?_
     refine wv (OV.fieldAddr0 rfl b7) ?_
     refine wv (OV.load rfl (At.own 0 rfl) rfl b9) ?_
     obtain ⟨o_36', h⟩ := h
     refine wv (OV.add rfl rfl o_36') ?_
     refine wv (OV.nilCheck rfl) ?_
     refine wv (OV.fieldAddr0 rfl b7) ?_
     refine WL.store (vs := [zI (s_1_5' + 1)]) (cs' := [st s_0, zI (s_1_5' + 1), w, zI s_3, zI s_4, st s_5]) 0 rfl rfl rfl rfl l8 (Nat.le_of_ble_eq_true rfl) rfl rfl rfl ?_
     refine WL.nil ?_
     refine kg (hK_63' [(0, zP b), (3, zI s_1)] _ ?_)
     refine a7 (fun _ hK_64' => ?_)
     refine m0 14 [] h8 (by kernel_rfl) rfl (fun T_15' hT_15' => ?_)
     refine fv (fun _ => OV.move rfl) ?_
     refine fv (fun _ => OV.move rfl) ?_
     refine fv (fun _ => OV.move rfl) ?_
     refine fv (fun _ => OV.nilCheck rfl) ?_
     refine fv (fun _ => OV.fieldAddr0 rfl f8) ?_
     refine fv (fun _ => OV.load rfl (At.own 0 rfl) rfl c8) ?_
     refine fv (fun _ => OV.move rfl) ?_
     obtain ⟨o_37', h⟩ := h
     refine fv (fun _ => OV.add rfl rfl o_37') ?_
     refine fv (fun _ => OV.move rfl) ?_
     refine fv (fun _ => OV.nilCheck rfl) ?_
     refine fv (fun _ => OV.fieldAddr0 rfl b7) ?_
     refine fv (fun _ => OV.load rfl (At.own 0 rfl) rfl b9) ?_
     obtain ⟨o_38', h⟩ := h
     refine fv (fun _ => OV.sub rfl rfl o_38') ?_
     obtain ⟨o_39', h⟩ := h
     refine fv (fun _ => OV.sliceS rfl rfl rfl d5 o_39') ?_
     refine FL.weak (L' := fun γ => [(94, zP b), (95, zI s_1), (107, st ((s_0.drop (s_1 + 1).toNat).take (((s_1_5' + 1) - 1).toNat - (s_1 + 1).toNat)))]) (fun γ => ⟨rfl, rfl, rfl, trivial⟩) (FL.nil (hT_15' (fun γ => [(94, zP b), (95, zI s_1), (107, st ((s_0.drop (s_1 + 1).toNat).take (((s_1_5' + 1) - 1).toNat - (s_1 + 1).toNat)))]) (fun γ => ?_)))
     obtain ⟨o_40', h⟩ := h
     refine WL.callS abg rfl (acj b s_0 (s_1_5' + 1) w s_3 s_4 s_5 sl 3 s_1 ((s_0.drop (s_1 + 1).toNat).take (((s_1_5' + 1) - 1).toNat - (s_1 + 1).toNat)) o_40') rfl trivial rfl rfl (fun r H' hS => ?_) (fun c H' hS => ?_)
     ·obtain ⟨w_3', ho⟩ := hS
      cases ho
      refine wA ?_
      refine WL.nil ?_
      refine kg (hK_64' [(2, zB true)] _ ?_)
      refine c9 ?_
      exact hE.ret [0, 1] rfl rfl (.inl ⟨_, _, _, _, _, _, _, _, h, rfl⟩) (e7.of1 rfl (RV.tmp rfl))
     ·obtain ⟨w_3', ho⟩ := hS
      cases ho
    ·replace h := j0 h hb
     refine c5 ?_
     refine kg (hK_51' [(0, zP b), (3, zI s_1)] _ ?_)
     refine a6 ?_
     refine wm ?_
     refine wv (OV.nilCheck rfl) ?_
     refine wv (OV.fieldAddr0 rfl b7) ?_
     refine wv (OV.load rfl (At.own 0 rfl) rfl b9) ?_
     obtain ⟨o_41', h⟩ := h
     refine wv (OV.add rfl rfl o_41') ?_
     refine wv (OV.nilCheck rfl) ?_
     refine wv (OV.fieldAddr0 rfl b7) ?_
     refine WL.store (vs := [zI (s_1_5' + 1)]) (cs' := [st s_0, zI (s_1_5' + 1), w, zI s_3, zI s_4, st s_5]) 0 rfl rfl rfl rfl l8 (Nat.le_of_ble_eq_true rfl) rfl rfl rfl ?_
     refine WL.nil ?_
     exact kh (hK_48' (s_1_5' + 1) h.1 h.2) [0, 1]
  ·skip
   refine a7 (fun _ hK_65' => ?_)
   refine abz [] h8 (by kernel_rfl) rfl (fun T_16' hT_16' => ?_)
   refine fv (fun _ => OV.move rfl) ?_
   refine fv (fun _ => OV.eql rfl rfl) ?_
   refine fv (fun _ => OV.move rfl) ?_
   obtain ⟨o_43', h⟩ := h
   refine FL.cut 12 rfl (fun _ => [(0, zP b), (3, zI s_1), (4, zU ((s_0.getD s_1_4'.toNat 0).toNat : Int)), (49, zB ((decide (((s_0.getD s_1_4'.toNat 0).toNat : Int) = 92)) && (decide (s_1_4' + 1 < (s_0.length : Int)))))]) ?_ (fun K0_66' hK_66' => ?_)
   rotate_left
   ·refine FL.split (decide (((s_0.getD s_1_4'.toNat 0).toNat : Int) = 92)) (fun hb => ?_) (fun hb => ?_)
    ·have o_42' := o_43' hb
     refine FL.set 37 (fun _ => rfl) (congrArg zB hb) ?_
     refine fv (fun _ => OV.move rfl) ?_
     refine fv (fun _ => OV.nilCheck rfl) ?_
     refine fv (fun _ => OV.fieldAddr0 rfl b7) ?_
     refine fv (fun _ => OV.load rfl (At.own 0 rfl) rfl b9) ?_
     refine fv (fun _ => OV.add rfl rfl o_42') ?_
     refine fv (fun _ => OV.move rfl) ?_
     refine fv (fun _ => OV.nilCheck rfl) ?_
     refine fv (fun _ => OV.fieldAddr0 rfl f8) ?_
     refine fv (fun _ => OV.load rfl (At.own 0 rfl) rfl c8) ?_
     refine fv (fun _ => OV.len rfl d5) ?_
     refine fv (fun _ => OV.lss rfl rfl) ?_
     refine fv (fun _ => OV.pickT rfl rfl) ?_
     refine FL.set 49 (fun _ => rfl) (bT (v := decide (s_1_4' + 1 < (s_0.length : Int))) hb) ?_
     exact FL.weak (L' := fun _ => [(0, zP b), (3, zI s_1), (4, zU ((s_0.getD s_1_4'.toNat 0).toNat : Int)), (49, zB ((decide (((s_0.getD s_1_4'.toNat 0).toNat : Int) = 92)) && (decide (s_1_4' + 1 < (s_0.length : Int)))))]) (fun _ => ⟨rfl, rfl, rfl, rfl, trivial⟩) (FL.nil hK_66')
    ·refine FL.set 37 (fun _ => rfl) (congrArg zB hb) ?_
     refine FL.skip rfl (fun _ => rfl) rfl rfl ?_
     refine FL.skip rfl (fun _ => rfl) rfl rfl ?_
     refine FL.skip rfl (fun _ => rfl) rfl rfl ?_
     refine FL.skip rfl (fun _ => rfl) rfl rfl ?_
     refine FL.skip rfl (fun _ => rfl) rfl rfl ?_
     refine FL.skip rfl (fun _ => rfl) rfl rfl ?_
     refine FL.skip rfl (fun _ => rfl) rfl rfl ?_
     refine FL.skip rfl (fun _ => rfl) rfl rfl ?_
     refine FL.skip rfl (fun _ => rfl) rfl rfl ?_
     refine FL.skip rfl (fun _ => rfl) rfl rfl ?_
     refine FL.skip rfl (fun _ => rfl) rfl rfl ?_
     refine fv (fun _ => OV.pickF rfl rfl) ?_
     refine FL.set 49 (fun _ => rfl) (bF (v := decide (s_1_4' + 1 < (s_0.length : Int))) hb) ?_
     exact FL.weak (L' := fun _ => [(0, zP b), (3, zI s_1), (4, zU ((s_0.getD s_1_4'.toNat 0).toNat : Int)), (49, zB ((decide (((s_0.getD s_1_4'.toNat 0).toNat : Int) = 92)) && (decide (s_1_4' + 1 < (s_0.length : Int)))))]) (fun _ => ⟨rfl, rfl, rfl, rfl, trivial⟩) (FL.nil hK_66')
   refine FL.weak (L' := fun _ => [(0, zP b), (3, zI s_1), (4, zU ((s_0.getD s_1_4'.toNat 0).toNat : Int)), (49, zB ((decide (((s_0.getD s_1_4'.toNat 0).toNat : Int) = 92)) && (decide (s_1_4' + 1 < (s_0.length : Int)))))]) (fun _ => ⟨rfl, rfl, rfl, rfl, trivial⟩) (FL.nil (hT_16' (fun _ => [(0, zP b), (3, zI s_1), (4, zU ((s_0.getD s_1_4'.toNat 0).toNat : Int)), (49, zB ((decide (((s_0.getD s_1_4'.toNat 0).toNat : Int) = 92)) && (decide (s_1_4' + 1 < (s_0.length : Int)))))]) (fun _ => ?_)))
   refine kg (hK_65' [(0, zP b), (3, zI s_1), (4, zU ((s_0.getD s_1_4'.toNat 0).toNat : Int)), (49, zB ((decide (((s_0.getD s_1_4'.toNat 0).toNat : Int) = 92)) && (decide (s_1_4' + 1 < (s_0.length : Int)))))] _ ?_)
   refine b8 (b := (decide (((s_0.getD s_1_4'.toNat 0).toNat : Int) = 92)) && (decide (s_1_4' + 1 < (s_0.length : Int)))) rfl (fun hb => ?_) (fun hb => ?_)
   ·replace h := j3 h hb
    refine a7 (fun _ hK_67' => ?_)
    refine a6 ?_
    refine wm ?_
    refine wv (OV.nilCheck rfl) ?_
    refine wv (OV.fieldAddr0 rfl b7) ?_
    refine wv (OV.load rfl (At.own 0 rfl) rfl b9) ?_
    obtain ⟨o_44', h⟩ := h
    refine wv (OV.add rfl rfl o_44') ?_
    refine wv (OV.nilCheck rfl) ?_
    refine wv (OV.fieldAddr0 rfl b7) ?_
    refine WL.store (vs := [zI (s_1_4' + 1)]) (cs' := [st s_0, zI (s_1_4' + 1), w, zI s_3, zI s_4, st s_5]) 0 rfl rfl rfl rfl l8 (Nat.le_of_ble_eq_true rfl) rfl rfl rfl ?_
    refine WL.nil ?_
    refine kg (hK_67' [(0, zP b), (3, zI s_1)] _ ?_)
    refine a7 (fun _ hK_68' => ?_)
    refine a6 ?_
    refine wA ?_
    refine WL.nil ?_
    refine kg (hK_68' [(0, zP b), (3, zI s_1), (4, zU 32)] _ ?_)
    refine a7 (fun _ hK_69' => ?_)
    refine m0 8 [] h8 (by kernel_rfl) rfl (fun T_17' hT_17' => ?_)
    refine fv (fun _ => OV.move rfl) ?_
    refine fv (fun _ => OV.nilCheck rfl) ?_
    refine fv (fun _ => OV.fieldAddr0 rfl f8) ?_
    refine fv (fun _ => OV.load rfl (At.own 0 rfl) rfl c8) ?_
    refine fv (fun _ => OV.move rfl) ?_
    refine fv (fun _ => OV.nilCheck rfl) ?_
    refine fv (fun _ => OV.fieldAddr0 rfl b7) ?_
    refine fv (fun _ => OV.load rfl (At.own 0 rfl) rfl b9) ?_
    refine FL.weak (L' := fun γ => [(0, zP b), (3, zI s_1), (4, zU 32), (60, st s_0), (64, zI (s_1_4' + 1))]) (fun γ => ⟨rfl, rfl, rfl, rfl, rfl, trivial⟩) (FL.nil (hT_17' (fun γ => [(0, zP b), (3, zI s_1), (4, zU 32), (60, st s_0), (64, zI (s_1_4' + 1))]) (fun γ => ?_)))
    obtain ⟨o_45', h⟩ := h
    refine wv (OV.index rfl rfl d5 o_45') ?_
    refine WL.call (A := []) aga rfl (aah ((s_0.getD (s_1_4' + 1).toNat 0).toNat : Int)) rfl trivial rfl rfl ?_
    refine wv (OV.not rfl) ?_
    refine WL.nil ?_
    refine kg (hK_69' [(0, zP b), (3, zI s_1), (4, zU 32), (67, zB (!(p6 ((s_0.getD (s_1_4' + 1).toNat 0).toNat : Int))))] _ ?_)
    refine b8 (b := !(p6 ((s_0.getD (s_1_4' + 1).toNat 0).toNat : Int))) rfl (fun hb => ?_) (fun hb => ?_)
    ·replace h := j3 h hb
     refine a7 (fun _ hK_70' => ?_)
     refine a6 ?_
     refine wm ?_
     refine wm ?_
     refine wv (OV.nilCheck rfl) ?_
     refine wv (OV.fieldAddr0 rfl b7) ?_
     refine wv (OV.load rfl (At.own 0 rfl) rfl b9) ?_
     refine WL.call x9 rfl (x4 b s_0 (s_1_4' + 1) w s_3 s_4 s_5 50 (s_1_4' + 1)) rfl trivial rfl rfl ?_
     refine wA ?_
     refine WL.nil ?_
     refine kg (hK_70' [(2, zB false)] _ ?_)
     refine c9 ?_
     exact hE.ret [0, 1] rfl rfl (.inl ⟨_, _, _, _, _, _, _, _, h, rfl⟩) (e7.of1 rfl (RV.tmp rfl))
    ·replace h := j0 h hb
     refine c5 ?_
     exact kh (hK_59' (32, s_1_4' + 1) h) [0, 1]
   ·replace h := j0 h hb
    refine c5 ?_
    exact kh (hK_59' (((s_0.getD s_1_4'.toNat 0).toNat : Int), s_1_4') h) [0, 1]
 ·replace h := j0 h hb
  refine p8 ?_
  refine kg (hK_2' [(0, zP b), (3, zI s_1)] _ ?_)
  refine a7 (fun _ hK_71' => ?_)
  refine a6 ?_
  refine wm ?_
  refine wm ?_
  refine WL.call x9 rfl (x4 b s_0 s_1_4' w s_3 s_4 s_5 52 s_1) rfl trivial rfl rfl ?_
  refine wA ?_
  refine WL.nil ?_
  refine kg (hK_71' [(2, zB false)] _ ?_)
  refine c9 ?_
  exact hE.ret [0, 1] rfl rfl (.inl ⟨_, _, _, _, _, _, _, _, h, rfl⟩) (e7.of1 rfl (RV.tmp rfl))
def art (b : Nat) (t : List UInt8) (l : List Tok) (fc fa : Int) (ft : List UInt8) (m : Except (Int × Int) (Tok × Int)) : Out → Prop := fun o =>
 ∃ (w' : Value) (ok : Bool) (q : Int) (l' : List Tok) (c x : Int) (y : List UInt8), aka m t l fc fa ft ok q l' c x y ∧ o = .ret (.bool ok) [.blk b (scB t q w' c x y), ae7 w' l']
theorem aky (b : Nat) (t : List UInt8) (a : Int) (w : Value) (fc fa : Int) (ft : List UInt8) (l : List Tok) (h : 0 ≤ a ∧ a < t.length ∧ t.length ≤ 4096 ∧ l.length ≤ 4096) :
  d8 Tryd.prog 61 [.pointer (some ⟨b, 0, none⟩)] [] [.blk b (scB t a w fc fa ft), ae7 w l] (art b t l fc fa ft (z8 t a)) := by
 refine (apn b w t a fc fa ft l (fun ok t' q c x y l' => t' = t ∧ aka (z8 t a) t l fc fa ft ok q l' c x y) ?_).weak ?_
 ·unfold afz
  have eb : ∀ i : Int, ((t.getD i.toNat 0).toNat : Int) = bt t i := fun _ => rfl
  have eb2 : ∀ i : Int, t.getD i.toNat 0 = (bt t i).toNat.toUInt8 := fun i => by unfold bt; simp
  simp only [eb, true_and]
  refine ⟨⟨by omega, by omega⟩, fun out k => a < k ∧ k ≤ t.length + 1 ∧ out.length ≤ k ∧ ∃ n, (t.length + 1 - k).toNat < n ∧ k6 t a (t.length + 1) [] (a + 1) = k6 t a n out k, fun _ k => (t.length + 1 - k).toNat, ⟨by omega, by omega, by simp; omega, t.length + 1, by omega, rfl⟩, ?_⟩
  rintro out k ⟨k0, k1, k2, n, hn, hF⟩
  obtain ⟨n, rfl⟩ : ∃ m, n = m + 1 := ⟨n - 1, by omega⟩
  have hM : ∀ r, k6 t a (n + 1) out k = r → z8 t a = (match r with | .ok (x, q) => .ok ((2, a, x), q) | .error e => .error e) := fun r hr => by unfold z8; rw [hF, hr]; rfl
  by_cases hk : k < t.length
  ·rw [if_pos (by simp; omega)]
   have hr : out.length ≤ 4096 := by omega
   refine ⟨fun out' q => k ≤ q ∧ q < t.length ∧ out'.length ≤ k + 1 ∧ k6 t a (n + 1) out k = k6 t a n out' (q + 1), fun out' q hq => ⟨⟨by omega, by omega⟩, ⟨by omega, by omega, by omega, n, by omega, by rw [hF]; exact hq.2.2.2⟩, by show (t.length + 1 - (q + 1)).toNat < (t.length + 1 - k).toNat; omega⟩, ⟨by omega, hk⟩, ?_⟩
   by_cases e1 : bt t k = 34
   ·rw [if_pos (by simpa using e1)]
    refine ⟨⟨by omega, by omega⟩, h.2.2.2, ?_⟩
    have := hM (.ok (out, k + 1)) (by rw [k6, if_pos hk, if_pos e1])
    rw [this]
    exact ⟨rfl, rfl, rfl, rfl, rfl, rfl⟩
   ·rw [if_neg (by simpa using e1)]
    by_cases e2 : p6 (bt t k) = true
    ·rw [if_neg (by simp [e2])]
     by_cases e3 : bt t k = 92
     ·rw [if_neg (by simp [e3])]
      refine ⟨⟨by omega, hk, h.2.2.1⟩, fun c ok q he => ?_⟩
      have hq := amq he
      by_cases e4 : (t.length : Int) ≤ q
      ·rw [if_pos (by simpa using e4)]
       rw [hM (.error (51, a)) (by rw [k6, if_pos hk, if_neg e1, if_neg (by simp [e2]), if_neg (by simp [e3]), he, if_pos e4])]
       exact ⟨rfl, rfl, rfl, rfl, rfl⟩
      ·rw [if_neg (by simpa using e4)]
       cases ok
       ·rw [hM (.error (50, q)) (by rw [k6, if_pos hk, if_neg e1, if_neg (by simp [e2]), if_neg (by simp [e3]), he, if_neg e4, if_pos rfl])]
        exact ⟨rfl, rfl, rfl, rfl, rfl⟩
       ·refine ⟨⟨hq.2.2.1, hq.2.2.2.1⟩, ⟨by omega, by omega⟩, by omega, by omega, by simp; omega, ?_⟩
        rw [k6, if_pos hk, if_neg e1, if_neg (by simp [e2]), if_neg (by simp [e3]), he, if_neg e4, if_neg (by simp)]
     ·rw [if_pos (by simpa using e3)]
      refine ⟨⟨by omega, by omega⟩, by omega, hk, by simp; omega, ?_⟩
      rw [k6, if_pos hk, if_neg e1, if_neg (by simp [e2]), if_pos e3, eb2 k]
    ·rw [if_pos (by simpa using e2)]
     rw [hM (.error (50, k)) (by rw [k6, if_pos hk, if_neg e1, if_pos (by simpa using e2)])]
     exact ⟨rfl, rfl, rfl, rfl, rfl⟩
  ·rw [if_neg (by simp; omega)]
   rw [hM (.error (51, a)) (by rw [k6, if_neg hk])]
   exact ⟨rfl, rfl, rfl, rfl, rfl⟩
 ·rintro o (⟨ok, t', q, c, x, y, w', l', ⟨rfl, hT⟩, rfl⟩ | h)
  ·exact ⟨w', ok, q, l', c, x, y, hT, rfl⟩
  ·exact h.elim
theorem amc (b : Nat) (t : List UInt8) (a : Int) (w : Value) (fc fa : Int) (ft : List UInt8) (l : List Tok) (h : 0 ≤ a ∧ a < t.length ∧ t.length ≤ 4096 ∧ l.length ≤ 4096) :
  d8 Tryd.prog 62 [.pointer (some ⟨b, 0, none⟩)] [] [.blk b (scB t a w fc fa ft), ae7 w l] (art b t l fc fa ft (aa8 t a)) := by
 refine (aq5 b w t a fc fa ft l (fun ok t' q c x y l' => t' = t ∧ aka (aa8 t a) t l fc fa ft ok q l' c x y) ?_).weak ?_
 ·unfold ahx
  have eb : ∀ i : Int, ((t.getD i.toNat 0).toNat : Int) = bt t i := fun _ => rfl
  simp only [eb, true_and]
  refine ⟨⟨by omega, by omega⟩, fun k => a < k ∧ k ≤ t.length + 1 ∧ ∃ n, (t.length + 1 - k).toNat < n ∧ o7 t a (t.length + 1) (a + 1) = o7 t a n k, fun k => (t.length + 1 - k).toNat, ⟨by omega, by omega, t.length + 1, by omega, rfl⟩, ?_⟩
  rintro k ⟨k0, k1, n, hn, hF⟩
  obtain ⟨n, rfl⟩ : ∃ m, n = m + 1 := ⟨n - 1, by omega⟩
  have hM : ∀ r, o7 t a (n + 1) k = r → aa8 t a = (match r with | .ok (x, q) => .ok ((3, a, x), q) | .error e => .error e) := fun r hr => by unfold aa8; rw [hF, hr]; rfl
  by_cases hk : k < t.length
  ·rw [if_pos (by simp; omega)]
   refine ⟨⟨by omega, hk⟩, fun c q => k ≤ q ∧ q < t.length ∧ o7 t a (n + 1) k = if p6 c = false then .error (50, q) else if c = 47 then .ok (cut t (a + 1) q, q + 1) else o7 t a n (q + 1), fun c q hq => ?_, fun _ => ⟨by omega, by omega⟩, ?_⟩
   ·obtain ⟨q0, q1, hR⟩ := hq
    by_cases e1 : p6 c = true
    ·rw [if_neg (by simp [e1])]
     rw [if_neg (by simp [e1])] at hR
     by_cases e2 : c = 47
     ·rw [if_pos (by simpa using e2)]
      rw [if_pos e2] at hR
      refine ⟨⟨by omega, by omega⟩, ⟨by omega, by omega⟩, ⟨by omega, by omega⟩, ⟨by omega, by omega, by omega⟩, h.2.2.2, ?_⟩
      rw [hM _ hR, show q + 1 - 1 = q by omega]
      exact ⟨rfl, rfl, rfl, rfl, rfl, rfl⟩
     ·rw [if_neg (by simpa using e2)]
      rw [if_neg e2] at hR
      exact ⟨⟨by omega, by omega⟩, ⟨by omega, by omega, n, by omega, by rw [hF, hR]⟩, by show (t.length + 1 - (q + 1)).toNat < (t.length + 1 - k).toNat; omega⟩
    ·rw [if_pos (by simpa using e1)]
     rw [if_pos (by simpa using e1)] at hR
     rw [hM _ hR]
     exact ⟨rfl, rfl, rfl, rfl, rfl⟩
   ·by_cases e1 : bt t k = 92 ∧ k + 1 < t.length
    ·rw [if_pos (by simpa using e1)]
     refine ⟨⟨by omega, by omega⟩, ⟨by omega, e1.2⟩, ?_⟩
     by_cases e2 : p6 (bt t (k + 1)) = true
     ·rw [if_neg (by simp [e2])]
      refine ⟨by omega, e1.2, ?_⟩
      rw [o7, if_pos hk, if_pos e1, if_neg (by simp [e2]), if_neg (by decide), if_neg (by decide), show k + 1 + 1 = k + 2 by omega]
     ·rw [if_pos (by simpa using e2)]
      rw [hM (.error (50, k + 1)) (by rw [o7, if_pos hk, if_pos e1, if_pos (by simpa using e2)])]
      exact ⟨rfl, rfl, rfl, rfl, rfl⟩
    ·rw [if_neg (by simpa using e1)]
     refine ⟨Int.le_refl _, hk, ?_⟩
     rw [o7, if_pos hk, if_neg e1]
  ·rw [if_neg (by simp; omega)]
   rw [hM (.error (52, a)) (by rw [o7, if_neg hk])]
   exact ⟨rfl, rfl, rfl, rfl, rfl⟩
 ·rintro o (⟨ok, t', q, c, x, y, w', l', ⟨rfl, hT⟩, rfl⟩ | h)
  ·exact ⟨w', ok, q, l', c, x, y, hT, rfl⟩
  ·exact h.elim
end Go.Proofs.YtifajndacnfcbaaDoor
