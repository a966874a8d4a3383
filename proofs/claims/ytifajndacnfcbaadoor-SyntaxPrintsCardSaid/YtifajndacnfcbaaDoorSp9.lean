/-
  Merged: SyNa, SyNb.
-/
import Derived.Test.YtifajndacnfcbaaDoorSp8
namespace Go.Proofs.YtifajndacnfcbaaDoor
open Go Go.RowKit
section
variable {P : Program} {ops : Array Oper} {Q : Exit → Act → World → Prop} {C : Cx} {L : Sl} {H HK : List HA} {w : World}
theorem WL.absorbRow0 {l : List Oper} {v : Value} {T sz n : Nat} {xs : List Value} {B : List (Nat × Obj)} (h : ∀ B1, aaw v T sz n xs B1 → WL P ops Q C L (pool (B1 ++ B) :: H) l) : WL P ops Q C L (.row v T sz n xs :: pool B :: H) l := fun a w hf hp => by
 obtain ⟨F, h1, h2⟩ := hp.own
 obtain ⟨B1, h3, h4⟩ := h1.absorbRow0
 exact h B1 h3 a w hf ⟨hp.os, hp.tape, hp.output, hp.size, hp.keep, hp.ro, F, h4, h2⟩
end
def aas (n : Int) : List Value := [.int .i64 n]
theorem abj (n : Int) : (aas n).length = 1 := rfl
abbrev NdV := Int × Int × Bs × Value
def ndC (d : NdV) : List Value := [.int .i64 d.1, .int .i64 d.2.1, st d.2.2.1, d.2.2.2]
theorem ana (d : NdV) : (ndC d).length = 4 := rfl
theorem av9 {v : Value} {a b : Int} {s : Bs} (h : v.oneCell' = true) : ([Value.int .i64 a, Value.int .i64 b, st s, v].all (·.oneCell')) = true := by simp [h]; exact ⟨rfl, rfl, rfl⟩
abbrev RdV := Int × Bs × Int
def rdC (d : RdV) : List Value := [.int .i64 d.1, st d.2.1, .int .i64 d.2.2]
theorem aiw (d : RdV) : (rdC d).length = 3 := rfl
def v8 (B : List (Nat × Obj)) (v : Value) (js : List Int) : Prop := ∃ B1, aaw v 3 1 js.length (js.flatMap aas) B1 ∧ ∀ p ∈ B1, p ∈ B
theorem v8.more {B B2 : List (Nat × Obj)} {v : Value} {js : List Int} (h : ∀ p ∈ B, p ∈ B2) (hp : v8 B v js) : v8 B2 v js := by
 obtain ⟨B1, h1, h2⟩ := hp
 exact ⟨B1, h1, fun p hq => h _ (h2 p hq)⟩
theorem aaw.one {v : Value} {T sz n : Nat} {xs : List Value} {B1 : List (Nat × Obj)} (h : aaw v T sz n xs B1) : v.oneCell' = true := by
 rcases h with ⟨rfl, _⟩ | ⟨b, cs, ⟨cap, rfl, _⟩, _⟩ <;> rfl
theorem axi (b : Nat) (x : Int) (B : List (Nat × Obj)) : v8 ((b, .cells [Value.int .i64 x].toArray 3 (0, 0)) :: B) (.slice (some ⟨b, 0, none⟩) 1 1) [x] :=
 ⟨[(b, .cells [Value.int .i64 x].toArray 3 (0, 0))], .inr ⟨b, [Value.int .i64 x], ⟨1, rfl, Nat.le_refl _, rfl, rfl, Nat.le_refl _, by omega⟩, rfl⟩, fun p hp => by rw [List.mem_singleton.1 hp]; exact List.mem_cons_self⟩
theorem aaw.parts {v : Value} {js : List Int} {R B : List (Nat × Obj)} (h : aaw v 3 1 js.length (js.flatMap aas) R) : v8 (R ++ B) v js := ⟨R, h, fun _ hp => List.mem_append_left _ hp⟩
abbrev am2 : Value := .slice none 0 0
mutual
def Nd (B : List (Nat × Obj)) (ns : List NdV) : Ex → Int → Prop
 | .name p s, i => 0 ≤ i ∧ ns[i.toNat]? = some (1, p, s, am2)
 | .text p s, i => 0 ≤ i ∧ ns[i.toNat]? = some (2, p, s, am2)
 | .regex p s, i => 0 ≤ i ∧ ns[i.toNat]? = some (3, p, s, am2)
 | .keyed p a, i => ∃ v j, (0 ≤ i ∧ ns[i.toNat]? = some (5, p, [], v)) ∧ v8 B v [j] ∧ Nd B ns a j
 | .unary p o a, i => ∃ v j, (0 ≤ i ∧ ns[i.toNat]? = some (6, p, o, v)) ∧ v8 B v [j] ∧ Nd B ns a j
 | .binary p o a b, i => ∃ v j k, (0 ≤ i ∧ ns[i.toNat]? = some (7, p, o, v)) ∧ v8 B v [j, k] ∧ Nd B ns a j ∧ Nd B ns b k
 | .call p w l, i => ∃ v js, (0 ≤ i ∧ ns[i.toNat]? = some (4, p, w, v)) ∧ v8 B v js ∧ NdL B ns l js
def NdL (B : List (Nat × Obj)) (ns : List NdV) : ExL → List Int → Prop
 | .nil, js => js = []
 | .cons a r, js => ∃ j ks, Nd B ns a j ∧ NdL B ns r ks ∧ js = j :: ks
end
theorem acu {ns x : List NdV} {i : Nat} {d : NdV} (h : ns[i]? = some d) : (ns ++ x)[i]? = some d := by
 have : i < ns.length := by
  rcases Nat.lt_or_ge i ns.length with g | g
  ·exact g
  ·rw [List.getElem?_eq_none g] at h; cases h
 rw [List.getElem?_append_left this]; exact h
mutual
theorem Nd.more {B B2 : List (Nat × Obj)} (h : ∀ p ∈ B, p ∈ B2) (ns x : List NdV) : ∀ (e : Ex) (i : Int), Nd B ns e i → Nd B2 (ns ++ x) e i
 | .name p s, i, hv => by rw [Nd] at hv ⊢; exact ⟨hv.1, acu hv.2⟩
 | .text p s, i, hv => by rw [Nd] at hv ⊢; exact ⟨hv.1, acu hv.2⟩
 | .regex p s, i, hv => by rw [Nd] at hv ⊢; exact ⟨hv.1, acu hv.2⟩
 | .keyed p a, i, hv => by rw [Nd] at hv ⊢; obtain ⟨v, j, h1, h2, h3⟩ := hv; exact ⟨v, j, ⟨h1.1, acu h1.2⟩, h2.more h, Nd.more h ns x a j h3⟩
 | .unary p o a, i, hv => by rw [Nd] at hv ⊢; obtain ⟨v, j, h1, h2, h3⟩ := hv; exact ⟨v, j, ⟨h1.1, acu h1.2⟩, h2.more h, Nd.more h ns x a j h3⟩
 | .binary p o a b, i, hv => by rw [Nd] at hv ⊢; obtain ⟨v, j, k, h1, h2, h3, h4⟩ := hv; exact ⟨v, j, k, ⟨h1.1, acu h1.2⟩, h2.more h, Nd.more h ns x a j h3, Nd.more h ns x b k h4⟩
 | .call p w l, i, hv => by rw [Nd] at hv ⊢; obtain ⟨v, js, h1, h2, h3⟩ := hv; exact ⟨v, js, ⟨h1.1, acu h1.2⟩, h2.more h, NdL.more h ns x l js h3⟩
theorem NdL.more {B B2 : List (Nat × Obj)} (h : ∀ p ∈ B, p ∈ B2) (ns x : List NdV) : ∀ (l : ExL) (js : List Int), NdL B ns l js → NdL B2 (ns ++ x) l js
 | .nil, js, hv => by rw [NdL] at hv ⊢; exact hv
 | .cons a r, js, hv => by rw [NdL] at hv ⊢; obtain ⟨j, ks, h1, h2, h3⟩ := hv; exact ⟨j, ks, Nd.more h ns x a j h1, NdL.more h ns x r ks h2, h3⟩
end
theorem NdL.len {B : List (Nat × Obj)} {ns : List NdV} : ∀ {l : ExL} {js : List Int}, NdL B ns l js → js.length = l.len
 | .nil, js, h => by rw [NdL] at h; subst h; rfl
 | .cons a r, js, h => by rw [NdL] at h; obtain ⟨j, ks, _, h2, rfl⟩ := h; rw [List.length_cons, h2.len]; rfl
theorem NdL.snoc {B : List (Nat × Obj)} {ns : List NdV} {b : Ex} {j : Int} (hb : Nd B ns b j) : ∀ {l : ExL} {js : List Int}, NdL B ns l js → NdL B ns (l.snoc b) (js ++ [j])
 | .nil, js, h => by rw [NdL] at h; subst h; rw [ExL.snoc, NdL]; exact ⟨j, [], hb, by rw [NdL], rfl⟩
 | .cons a r, js, h => by rw [NdL] at h; obtain ⟨k, ks, h1, h2, rfl⟩ := h; rw [ExL.snoc, NdL]; exact ⟨k, ks ++ [j], h1, h2.snoc hb, rfl⟩
def aca (er e : Int) : Int := if er = 0 then e else er
def acd (ts : List Tok) (k er ea : Int) : Int := if er = 0 then (b3 ts k.toNat).2.1 else ea
def o6 (ts : List Tok) (k er : Int) (m : Bs) : Bool := decide (er = 0) && isM ts k.toNat m
abbrev St4 := Int × Int × Int × Int
def aa5 (ts : List Tok) (k o er ea : Int) (m : Bs) : St4 :=
 if o6 ts k er m = true then
  (if m = [40] ∨ m = [123] then (if o = 64 then (k, o, aca er 23, acd ts k er ea) else (k + 1, o + 1, er, ea))
  else if m = [41] ∨ m = [125] then (k + 1, o - 1, er, ea) else (k + 1, o, er, ea))
 else (k, o, aca er 60, acd ts k er ea)
structure RP (ts : List Tok) (k o er : Int) (ns : List NdV) : Prop where
 k0 : 0 ≤ k
 k1 : k < ts.length
 o0 : 0 ≤ o
 o1 : o ≤ 64
 en : alr ts
 mks : aq9 ts
 len : ts.length ≤ 10000
 nn : (ns.length : Int) ≤ k + (if er = 0 then 0 else 1)
structure Gr (ts : List Tok) (B : List (Nat × Obj)) (ns : List NdV) (k k2 o2 er2 : Int) (ns2 : List NdV) (B2 : List (Nat × Obj)) : Prop where
 rp : RP ts k2 o2 er2 ns2
 le : k ≤ k2
 ex : ∃ x, ns2 = ns ++ x
 sub : ∀ p ∈ B, p ∈ B2
 rel : (ns2.length : Int) + k ≤ ns.length + k2 + (if er2 = 0 then 0 else 1)
def Res (r : RsX Ex) (B2 : List (Nat × Obj)) (ns2 : List NdV) (ea i k2 o2 er2 ea2 : Int) : Prop := match r with
 | .ok (e, q) => (er2 = 0 ∧ ea2 = ea ∧ k2 = (q.1 : Int) ∧ o2 = q.2) ∧ Nd B2 ns2 e i
 | .error x => er2 = x.1 ∧ ea2 = x.2
def x8 (r : RsX Ex) (ts : List Tok) (B : List (Nat × Obj)) (ns : List NdV) (k o er ea : Int) (i k2 o2 er2 ea2 : Int) (ns2 : List NdV) (B2 : List (Nat × Obj)) : Prop :=
 if er = 0 then Gr ts B ns k k2 o2 er2 ns2 B2 ∧ Res r B2 ns2 ea i k2 o2 er2 ea2
 else k2 = k ∧ o2 = o ∧ er2 = er ∧ ea2 = ea ∧ ns2 = ns ∧ B2 = B
abbrev rfH (pb : Nat) (wa : Value) (ts : List Tok) (wn : Value) (ns : List NdV) (k o er ea : Int) (dv : Value) (mn : Int) (B : List (Nat × Obj)) : List HA :=
 [.blk pb (.cells [wa, Value.int .i64 k, Value.int .i64 o, Value.int .i64 er, Value.int .i64 ea, wn, dv, Value.int .i64 mn].toArray 62 (0, 0)), .row wa 64 3 ts.length (ts.flatMap d8), .row wn 69 4 ns.length (ns.flatMap ndC), pool B]
def ag1 (ts : List Tok) (k er : Int) (l : Int) : Prop :=
 ∀ (pb : Nat) (wa : Value) (wn : Value) (ns : List NdV) (o ea : Int) (dv : Value) (mn : Int) (B : List (Nat × Obj)), (RP ts k o er ns ∧ 0 ≤ l ∧ l ≤ 5) → d7 Tryd.prog 22 [.pointer (some ⟨pb, 0, none⟩), .int .i64 l] [] (rfH pb wa ts wn ns k o er ea dv mn B)
  (fun out => ∃ w2 i k2 o2 er2 ea2 ns2 B2, x8 (sE ts l.toNat (k.toNat, o)) ts B ns k o er ea i k2 o2 er2 ea2 ns2 B2 ∧ out = .ret (.int .i64 i) (rfH pb wa ts w2 ns2 k2 o2 er2 ea2 dv mn B2))
def awy (ts : List Tok) (k er : Int) : Prop :=
 ∀ (pb : Nat) (wa : Value) (wn : Value) (ns : List NdV) (o ea : Int) (dv : Value) (mn : Int) (B : List (Nat × Obj)), (RP ts k o er ns) → d7 Tryd.prog 51 [.pointer (some ⟨pb, 0, none⟩)] [] (rfH pb wa ts wn ns k o er ea dv mn B)
  (fun out => ∃ w2 i k2 o2 er2 ea2 ns2 B2, x8 (sP ts (k.toNat, o)) ts B ns k o er ea i k2 o2 er2 ea2 ns2 B2 ∧ out = .ret (.int .i64 i) (rfH pb wa ts w2 ns2 k2 o2 er2 ea2 dv mn B2))
def awt (ts : List Tok) (k er : Int) : Prop :=
 ∀ (pb : Nat) (wa : Value) (wn : Value) (ns : List NdV) (o ea : Int) (dv : Value) (mn : Int) (B : List (Nat × Obj)), (RP ts k o er ns) → d7 Tryd.prog 69 [.pointer (some ⟨pb, 0, none⟩)] [] (rfH pb wa ts wn ns k o er ea dv mn B)
  (fun out => ∃ w2 i k2 o2 er2 ea2 ns2 B2, x8 (sA ts (k.toNat, o)) ts B ns k o er ea i k2 o2 er2 ea2 ns2 B2 ∧ out = .ret (.int .i64 i) (rfH pb wa ts w2 ns2 k2 o2 er2 ea2 dv mn B2))
def age (x : Except (Int × Int) PSx) (k o ea k2 o2 er2 ea2 : Int) : Prop := match x with
 | .ok q => er2 = 0 ∧ ea2 = ea ∧ k2 = (q.1 : Int) ∧ o2 = q.2
 | .error y => (er2 = y.1 ∧ ea2 = y.2 ∧ k2 = k ∧ o2 = o) ∧ y.1 ≠ 0
section
variable {ts : List Tok} {k o er ea k2 o2 er2 ea2 : Int} {m : Bs} {ns : List NdV}
theorem aix (h : er ≠ 0) (hw : aa5 ts k o er ea m = (k2, o2, er2, ea2)) : k2 = k ∧ o2 = o ∧ er2 = er ∧ ea2 = ea := by
 unfold aa5 o6 aca acd at hw
 rw [decide_eq_false h, Bool.false_and, if_neg (by decide), if_neg h, if_neg h] at hw
 cases hw; exact ⟨rfl, rfl, rfl, rfl⟩
theorem aik (m : Bs) : o6 ts k 0 m = isM ts k.toNat m := by unfold o6; rfl
theorem amt (hm : m = [40] ∨ m = [123]) (h0 : 0 ≤ k) (ho : o ≤ 64) (hw : aa5 ts k o 0 ea m = (k2, o2, er2, ea2)) : age (n8 ts (k.toNat, o) m) k o ea k2 o2 er2 ea2 := by
 unfold aa5 at hw
 rw [aik, if_pos hm] at hw
 unfold n8 age
 dsimp only
 by_cases h1 : isM ts k.toNat m = true
 ·rw [if_pos h1] at hw ⊢
  by_cases h2 : o = 64
  ·rw [if_pos h2] at hw
   rw [if_pos (by omega)]
   cases hw; exact ⟨⟨rfl, rfl, rfl, rfl⟩, by show (23 : Int) ≠ 0; decide⟩
  ·rw [if_neg h2] at hw
   rw [if_neg (by omega)]
   cases hw; exact ⟨rfl, rfl, by dsimp only; omega, rfl⟩
 ·rw [if_neg h1] at hw ⊢
  cases hw; exact ⟨⟨rfl, rfl, rfl, rfl⟩, by show (60 : Int) ≠ 0; decide⟩
theorem aje (hm : m = [41] ∨ m = [125]) (h0 : 0 ≤ k) (hw : aa5 ts k o 0 ea m = (k2, o2, er2, ea2)) : age (p9 ts (k.toNat, o) m) k o ea k2 o2 er2 ea2 := by
 have hn : ¬ (m = [40] ∨ m = [123]) := by rcases hm with rfl | rfl <;> decide
 unfold aa5 at hw
 rw [aik, if_neg hn, if_pos hm] at hw
 unfold p9 age
 dsimp only
 by_cases h1 : isM ts k.toNat m = true
 ·rw [if_pos h1] at hw ⊢
  cases hw; exact ⟨rfl, rfl, by dsimp only; omega, rfl⟩
 ·rw [if_neg h1] at hw ⊢
  cases hw; exact ⟨⟨rfl, rfl, rfl, rfl⟩, by show (60 : Int) ≠ 0; decide⟩
theorem ah4 (h1 : ¬ (m = [40] ∨ m = [123])) (h2 : ¬ (m = [41] ∨ m = [125])) (h0 : 0 ≤ k) (hw : aa5 ts k o 0 ea m = (k2, o2, er2, ea2)) : age (o8 ts (k.toNat, o) m) k o ea k2 o2 er2 ea2 := by
 unfold aa5 at hw
 rw [aik, if_neg h1, if_neg h2] at hw
 unfold o8 age
 dsimp only
 by_cases h1 : isM ts k.toNat m = true
 ·rw [if_pos h1] at hw ⊢
  cases hw; exact ⟨rfl, rfl, by dsimp only; omega, rfl⟩
 ·rw [if_neg h1] at hw ⊢
  cases hw; exact ⟨⟨rfl, rfl, rfl, rfl⟩, by show (60 : Int) ≠ 0; decide⟩
theorem RP.next (H : RP ts k o er ns) (h : (b3 ts k.toNat).1 ≠ 0) : k + 1 < (ts.length : Int) := by
 have := H.en.lt _ h
 have := H.k0
 omega
theorem RP.nextM (H : RP ts k o er ns) (h : isM ts k.toNat m = true) : k + 1 < (ts.length : Int) := H.next (by rw [(x6 h).1]; decide)
theorem RP.at (H : RP ts k o er ns) (h0 : 0 ≤ k2) (h1 : k2 < ts.length) (h2 : 0 ≤ o2) (h3 : o2 ≤ 64) {ns2 : List NdV} (h4 : (ns2.length : Int) ≤ k2 + (if er2 = 0 then 0 else 1)) : RP ts k2 o2 er2 ns2 := ⟨h0, h1, h2, h3, H.en, H.mks, H.len, h4⟩
theorem RP.fault (H : RP ts k o 0 ns) (h : er2 ≠ 0) : RP ts k o er2 ns := H.at H.k0 H.k1 H.o0 H.o1 (by have := H.nn; rw [if_neg h]; rw [if_pos rfl] at this; omega)
theorem ark (H : RP ts k o 0 ns) (h : age (n8 ts (k.toNat, o) m) k o ea k2 o2 er2 ea2) : RP ts k2 o2 er2 ns ∧ ((er2 = 0 ∧ n8 ts (k.toNat, o) m = .ok (k2.toNat, o2) ∧ k2 = k + 1 ∧ o2 = o + 1 ∧ ea2 = ea) ∨ (er2 ≠ 0 ∧ n8 ts (k.toNat, o) m = .error (er2, ea2) ∧ k2 = k ∧ o2 = o)) := by
 have hn := H.nn
 have h0 := H.k0
 rw [if_pos rfl] at hn
 cases hx : n8 ts (k.toNat, o) m with
 | ok q =>
  rw [hx] at h
  obtain ⟨m1, m2, rfl⟩ := aag hx
  obtain ⟨rfl, rfl, rfl, rfl⟩ := h
  have := H.nextM m1
  have := H.o0
  dsimp only at m2 ⊢
  exact ⟨H.at (by omega) (by omega) (by omega) (by omega) (by rw [if_pos rfl]; omega), .inl ⟨rfl, rfl, by omega, rfl, rfl⟩⟩
 | error y =>
  rw [hx] at h
  obtain ⟨⟨rfl, rfl, rfl, rfl⟩, hy⟩ := h
  exact ⟨H.fault hy, .inr ⟨hy, rfl, rfl, rfl⟩⟩
theorem ao7 (H : RP ts k o 0 ns) (ho : 1 ≤ o) (h : age (p9 ts (k.toNat, o) m) k o ea k2 o2 er2 ea2) : RP ts k2 o2 er2 ns ∧ ((er2 = 0 ∧ p9 ts (k.toNat, o) m = .ok (k2.toNat, o2) ∧ k2 = k + 1 ∧ o2 = o - 1 ∧ ea2 = ea) ∨ (er2 ≠ 0 ∧ p9 ts (k.toNat, o) m = .error (er2, ea2) ∧ k2 = k ∧ o2 = o)) := by
 have hn := H.nn
 have h0 := H.k0
 rw [if_pos rfl] at hn
 cases hx : p9 ts (k.toNat, o) m with
 | ok q =>
  rw [hx] at h
  obtain ⟨m1, rfl⟩ := acw hx
  obtain ⟨rfl, rfl, rfl, rfl⟩ := h
  have := H.nextM m1
  have := H.o1
  dsimp only
  exact ⟨H.at (by omega) (by omega) (by omega) (by omega) (by rw [if_pos rfl]; omega), .inl ⟨rfl, rfl, by omega, rfl, rfl⟩⟩
 | error y =>
  rw [hx] at h
  obtain ⟨⟨rfl, rfl, rfl, rfl⟩, hy⟩ := h
  exact ⟨H.fault hy, .inr ⟨hy, rfl, rfl, rfl⟩⟩
theorem anp (H : RP ts k o 0 ns) (h : age (o8 ts (k.toNat, o) m) k o ea k2 o2 er2 ea2) : RP ts k2 o2 er2 ns ∧ ((er2 = 0 ∧ o8 ts (k.toNat, o) m = .ok (k2.toNat, o2) ∧ k2 = k + 1 ∧ o2 = o ∧ ea2 = ea) ∨ (er2 ≠ 0 ∧ o8 ts (k.toNat, o) m = .error (er2, ea2) ∧ k2 = k ∧ o2 = o)) := by
 have hn := H.nn
 have h0 := H.k0
 rw [if_pos rfl] at hn
 cases hx : o8 ts (k.toNat, o) m with
 | ok q =>
  rw [hx] at h
  obtain ⟨m1, rfl⟩ := ab5 hx
  obtain ⟨rfl, rfl, rfl, rfl⟩ := h
  have := H.nextM m1
  dsimp only
  exact ⟨H.at (by omega) (by omega) H.o0 H.o1 (by rw [if_pos rfl]; omega), .inl ⟨rfl, rfl, by omega, rfl, rfl⟩⟩
 | error y =>
  rw [hx] at h
  obtain ⟨⟨rfl, rfl, rfl, rfl⟩, hy⟩ := h
  exact ⟨H.fault hy, .inr ⟨hy, rfl, rfl, rfl⟩⟩
end
theorem Gr.trans {ts : List Tok} {B B2 B3 : List (Nat × Obj)} {ns ns2 ns3 : List NdV} {k k2 k3 o2 o3 er3 : Int} (h : Gr ts B ns k k2 o2 0 ns2 B2) (g : Gr ts B2 ns2 k2 k3 o3 er3 ns3 B3) : Gr ts B ns k k3 o3 er3 ns3 B3 := by
 obtain ⟨x, hx⟩ := h.ex
 obtain ⟨y, hy⟩ := g.ex
 have h1 := h.rel
 rw [if_pos rfl] at h1
 have h2 := g.rel
 have := h.le
 have := g.le
 exact ⟨g.rp, by omega, ⟨x ++ y, by rw [hy, hx, List.append_assoc]⟩, fun p hp => g.sub p (h.sub p hp), by omega⟩
theorem Gr.step {ts : List Tok} {B : List (Nat × Obj)} {ns : List NdV} {k k2 o2 er2 : Int} (h : RP ts k2 o2 er2 ns) (hk : k ≤ k2) : Gr ts B ns k k2 o2 er2 ns B := ⟨h, hk, ⟨[], by simp⟩, fun _ hp => hp, by split <;> omega⟩
theorem ahu {ts : List Tok} {l : Nat} {q : PSx} {x : Int × Int} (h : sE ts l q = .error x) : x.1 ≠ 0 := ((aoz ts _).e _ _ _ h).nz
theorem Nd.last {ns : List NdV} {d : NdV} : (0 : Int) ≤ (ns.length : Int) ∧ (ns ++ [d])[((ns.length : Int)).toNat]? = some d := by
 refine ⟨by omega, ?_⟩
 rw [show ((ns.length : Int)).toNat = ns.length by omega, List.getElem?_append_right (Nat.le_refl _), Nat.sub_self]; rfl
end Go.Proofs.YtifajndacnfcbaaDoor
set_option maxRecDepth 100000
namespace Go.Proofs.YtifajndacnfcbaaDoor
open Go Go.RowKit
theorem l9 : slB Tryd.prog 110 9 1 = true := by kernel_rfl
theorem p8 : e9 Tryd.prog 62 3 = some 3 := by kernel_rfl
theorem l3 : e9 Tryd.prog 62 0 = some 0 := by kernel_rfl
theorem p6 : aaa Tryd.prog 57 = true := by kernel_rfl
theorem e7 : e9 Tryd.prog 62 1 = some 1 := by kernel_rfl
theorem s5 : e9 Tryd.prog 64 1 = some 1 := by kernel_rfl
theorem af9 : e9 Tryd.prog 62 4 = some 4 := by kernel_rfl
theorem w9 : e9 Tryd.prog 62 5 = some 5 := by kernel_rfl
theorem ab6 : e9 Tryd.prog 32 0 = some 0 := by kernel_rfl
theorem agh : aaa Tryd.prog 29 = true := by kernel_rfl
theorem ahh : slB Tryd.prog 29 69 4 = true := by kernel_rfl
theorem apc : aew Tryd.prog 69 = some ([zI 0, zI 0, st [], Value.slice none 0 0], 4, 56) := by kernel_rfl
theorem aqi : o7 Tryd.prog 29 1 = true := by kernel_rfl
theorem aco : l6 Tryd.prog 50 = true := by kernel_rfl
theorem acp : l6 Tryd.prog 20 = true := by kernel_rfl
theorem aa9 : e9 Tryd.prog 62 2 = some 2 := by kernel_rfl
def aid (w : List UInt8) (K : Int → Prop) : Prop :=
 (if (decide (([99, 111, 112, 121] : List UInt8) = w)) = true then
  K 1
 else
  (if (decide (([107, 101, 121] : List UInt8) = w)) = true then
   K 1
  else
   (if (decide (([105, 110, 115] : List UInt8) = w)) = true then
    K 1
   else
    (if (decide (([105, 100] : List UInt8) = w)) = true then
     K 1
    else
     (if (decide (([102, 111, 108, 100] : List UInt8) = w)) = true then
      K 1
     else
      (if (decide (([100, 101, 108] : List UInt8) = w)) = true then
       K 2
      else
       (if (decide (([108, 101, 102, 116] : List UInt8) = w)) = true then
        K 2
       else
        (if (decide (([114, 105, 103, 104, 116] : List UInt8) = w)) = true then
         K 2
        else
         (if (decide (([100, 101, 102, 97, 117, 108, 116] : List UInt8) = w)) = true then
          K 2
         else
          (if (decide (w = ([110, 111, 114, 109] : List UInt8))) = true then
           K 3
          else
           (if (decide (w = ([108, 101, 116] : List UInt8))) = true then
            K (-1)
           else
            K 0)))))))))))
theorem ass  (w : List UInt8) (K : Int → Prop) (h : aid w K) :
  d7 Tryd.prog 19 [st w] [] [] (fun o => (∃ (v : Int), K v ∧ o = .ret (zI v) []) ∨ (False)) := by
 unfold aid at h
 refine c7 (n := 37) (L0 := [(0, st w)]) Tryd.func19 rfl rfl rfl rfl (fun w0 M Q hE => ?_)
 refine a7 (fun _ hK => ?_)
 refine a6 ?_
 refine wA ?_
 refine WL.nil ?_
 refine kg (hK [(0, st w)] _ ?_)
 refine a7 (fun _ hK_1' => ?_)
 refine a6 ?_
 refine WL.make (MV.buildSlice (cs := [st ([99, 111, 112, 121] : List UInt8), st ([107, 101, 121] : List UInt8), st ([105, 110, 115] : List UInt8), st ([105, 100] : List UInt8), st ([102, 111, 108, 100] : List UInt8)]) rfl l9 (by kernel_rfl)) rfl rfl rfl (fun b => ?_)
 refine wA ?_
 refine WL.nil ?_
 refine kg (hK_1' [(0, st w), (3, Value.slice (some ⟨b, 0, none⟩) 5 5)] _ ?_)
 refine a7 (fun _ hK_2' => ?_)
 refine a6 ?_
 refine WL.make (MV.buildSlice (cs := [st ([100, 101, 108] : List UInt8), st ([108, 101, 102, 116] : List UInt8), st ([114, 105, 103, 104, 116] : List UInt8), st ([100, 101, 102, 97, 117, 108, 116] : List UInt8)]) rfl l9 (by kernel_rfl)) rfl rfl rfl (fun b_1' => ?_)
 refine wA ?_
 refine WL.nil ?_
 refine kg (hK_2' [(0, st w), (3, Value.slice (some ⟨b, 0, none⟩) 5 5), (4, Value.slice (some ⟨b_1', 0, none⟩) 4 4)] _ ?_)
 refine a7 (fun _ hK_3' => ?_)
 refine a7 (fun _ hK_4' => ?_)
 refine a6 ?_
 refine wA ?_
 refine WL.nil ?_
 refine kg (hK_4' [(0, st w), (3, Value.slice (some ⟨b, 0, none⟩) 5 5), (4, Value.slice (some ⟨b_1', 0, none⟩) 4 4), (5, zI 0)] _ ?_)
 refine b7 ?_
 refine adz 6 ?_
 refine RC.succ (fun K0_5' hK_5' => ?_)
 refine a7 (fun _ hK_6' => ?_)
 refine a7 (fun _ hK_7' => ?_)
 refine a6 ?_
 refine wm ?_
 refine wm ?_
 refine wv (OV.lenS rfl l9) ?_
 refine wv (OV.lss rfl rfl) ?_
 refine WL.nil ?_
 refine kg (hK_7' [(0, st w), (3, Value.slice (some ⟨b, 0, none⟩) 5 5), (4, Value.slice (some ⟨b_1', 0, none⟩) 4 4), (5, zI 0), (12, zB true)] _ ?_)
 refine h8 rfl ?_
 refine b5 ?_
 refine kg (hK_6' [(0, st w), (3, Value.slice (some ⟨b, 0, none⟩) 5 5), (4, Value.slice (some ⟨b_1', 0, none⟩) 4 4), (5, zI 0)] _ ?_)
 refine a7 (fun _ hK_8' => ?_)
 refine b7 ?_
 refine a7 (fun _ hK_9' => ?_)
 refine a6 ?_
 refine wm ?_
 refine wm ?_
 refine wv (OV.indexSl rfl rfl l9 (by decide) rfl) ?_
 refine wv (OV.load rfl (At.own 1 rfl) rfl c6) ?_
 refine wm ?_
 refine wv (OV.eqlS rfl rfl) ?_
 refine WL.nil ?_
 refine kg (hK_9' [(0, st w), (3, Value.slice (some ⟨b, 0, none⟩) 5 5), (4, Value.slice (some ⟨b_1', 0, none⟩) 4 4), (5, zI 0), (20, zB (decide (([99, 111, 112, 121] : List UInt8) = w)))] _ ?_)
 refine a8 (b := decide (([99, 111, 112, 121] : List UInt8) = w)) rfl (fun hb => ?_) (fun hb => ?_)
 ·replace h := e6 h hb
  refine a7 (fun _ hK_10' => ?_)
  refine a6 ?_
  refine wA ?_
  refine WL.nil ?_
  refine kg (hK_10' [(2, zI 1)] _ ?_)
  refine b8 ?_
  exact hE.ret [] rfl rfl (.inl ⟨_, h, rfl⟩) (d6.of1 rfl (RV.tmp rfl))
 ·replace h := d9 h hb
  refine b5 ?_
  refine kg (hK_8' [(0, st w), (3, Value.slice (some ⟨b, 0, none⟩) 5 5), (4, Value.slice (some ⟨b_1', 0, none⟩) 4 4), (5, zI 0)] _ ?_)
  refine a6 ?_
  refine wm ?_
  refine wv (OV.add rfl rfl ⟨by decide, by decide⟩) ?_
  refine wA ?_
  refine WL.nil ?_
  refine kg (hK_5' [(0, st w), (3, Value.slice (some ⟨b, 0, none⟩) 5 5), (4, Value.slice (some ⟨b_1', 0, none⟩) 4 4), (5, zI 1)] _ ?_)
  refine RC.succ (fun K0_11' hK_11' => ?_)
  refine a7 (fun _ hK_12' => ?_)
  refine a7 (fun _ hK_13' => ?_)
  refine a6 ?_
  refine wm ?_
  refine wm ?_
  refine wv (OV.lenS rfl l9) ?_
  refine wv (OV.lss rfl rfl) ?_
  refine WL.nil ?_
  refine kg (hK_13' [(0, st w), (3, Value.slice (some ⟨b, 0, none⟩) 5 5), (4, Value.slice (some ⟨b_1', 0, none⟩) 4 4), (5, zI 1), (12, zB true)] _ ?_)
  refine h8 rfl ?_
  refine b5 ?_
  refine kg (hK_12' [(0, st w), (3, Value.slice (some ⟨b, 0, none⟩) 5 5), (4, Value.slice (some ⟨b_1', 0, none⟩) 4 4), (5, zI 1)] _ ?_)
  refine a7 (fun _ hK_14' => ?_)
  refine b7 ?_
  refine a7 (fun _ hK_15' => ?_)
  refine a6 ?_
  refine wm ?_
  refine wm ?_
  refine wv (OV.indexSl rfl rfl l9 (by decide) rfl) ?_
  refine wv (OV.load rfl (At.own 1 rfl) rfl c6) ?_
  refine wm ?_
  refine wv (OV.eqlS rfl rfl) ?_
  refine WL.nil ?_
  refine kg (hK_15' [(0, st w), (3, Value.slice (some ⟨b, 0, none⟩) 5 5), (4, Value.slice (some ⟨b_1', 0, none⟩) 4 4), (5, zI 1), (20, zB (decide (([107, 101, 121] : List UInt8) = w)))] _ ?_)
  refine a8 (b := decide (([107, 101, 121] : List UInt8) = w)) rfl (fun hb => ?_) (fun hb => ?_)
  ·replace h := e6 h hb
   refine a7 (fun _ hK_16' => ?_)
   refine a6 ?_
   refine wA ?_
   refine WL.nil ?_
   refine kg (hK_16' [(2, zI 1)] _ ?_)
   refine b8 ?_
   exact hE.ret [] rfl rfl (.inl ⟨_, h, rfl⟩) (d6.of1 rfl (RV.tmp rfl))
  ·replace h := d9 h hb
   refine b5 ?_
   refine kg (hK_14' [(0, st w), (3, Value.slice (some ⟨b, 0, none⟩) 5 5), (4, Value.slice (some ⟨b_1', 0, none⟩) 4 4), (5, zI 1)] _ ?_)
   refine a6 ?_
   refine wm ?_
   refine wv (OV.add rfl rfl ⟨by decide, by decide⟩) ?_
   refine wA ?_
   refine WL.nil ?_
   refine kg (hK_11' [(0, st w), (3, Value.slice (some ⟨b, 0, none⟩) 5 5), (4, Value.slice (some ⟨b_1', 0, none⟩) 4 4), (5, zI 2)] _ ?_)
   refine RC.succ (fun K0_17' hK_17' => ?_)
   refine a7 (fun _ hK_18' => ?_)
   refine a7 (fun _ hK_19' => ?_)
   refine a6 ?_
   refine wm ?_
   refine wm ?_
   refine wv (OV.lenS rfl l9) ?_
   refine wv (OV.lss rfl rfl) ?_
   refine WL.nil ?_
   refine kg (hK_19' [(0, st w), (3, Value.slice (some ⟨b, 0, none⟩) 5 5), (4, Value.slice (some ⟨b_1', 0, none⟩) 4 4), (5, zI 2), (12, zB true)] _ ?_)
   refine h8 rfl ?_
   refine b5 ?_
   refine kg (hK_18' [(0, st w), (3, Value.slice (some ⟨b, 0, none⟩) 5 5), (4, Value.slice (some ⟨b_1', 0, none⟩) 4 4), (5, zI 2)] _ ?_)
   refine a7 (fun _ hK_20' => ?_)
   refine b7 ?_
   refine a7 (fun _ hK_21' => ?_)
   refine a6 ?_
   refine wm ?_
   refine wm ?_
   refine wv (OV.indexSl rfl rfl l9 (by decide) rfl) ?_
   refine wv (OV.load rfl (At.own 1 rfl) rfl c6) ?_
   refine wm ?_
   refine wv (OV.eqlS rfl rfl) ?_
   refine WL.nil ?_
   refine kg (hK_21' [(0, st w), (3, Value.slice (some ⟨b, 0, none⟩) 5 5), (4, Value.slice (some ⟨b_1', 0, none⟩) 4 4), (5, zI 2), (20, zB (decide (([105, 110, 115] : List UInt8) = w)))] _ ?_)
   refine a8 (b := decide (([105, 110, 115] : List UInt8) = w)) rfl (fun hb => ?_) (fun hb => ?_)
   ·replace h := e6 h hb
    refine a7 (fun _ hK_22' => ?_)
    refine a6 ?_
    refine wA ?_
    refine WL.nil ?_
    refine kg (hK_22' [(2, zI 1)] _ ?_)
    refine b8 ?_
    exact hE.ret [] rfl rfl (.inl ⟨_, h, rfl⟩) (d6.of1 rfl (RV.tmp rfl))
   ·replace h := d9 h hb
    refine b5 ?_
    refine kg (hK_20' [(0, st w), (3, Value.slice (some ⟨b, 0, none⟩) 5 5), (4, Value.slice (some ⟨b_1', 0, none⟩) 4 4), (5, zI 2)] _ ?_)
    refine a6 ?_
    refine wm ?_
    refine wv (OV.add rfl rfl ⟨by decide, by decide⟩) ?_
    refine wA ?_
    refine WL.nil ?_
    refine kg (hK_17' [(0, st w), (3, Value.slice (some ⟨b, 0, none⟩) 5 5), (4, Value.slice (some ⟨b_1', 0, none⟩) 4 4), (5, zI 3)] _ ?_)
    refine RC.succ (fun K0_23' hK_23' => ?_)
    refine a7 (fun _ hK_24' => ?_)
    refine a7 (fun _ hK_25' => ?_)
    refine a6 ?_
    refine wm ?_
    refine wm ?_
    refine wv (OV.lenS rfl l9) ?_
    refine wv (OV.lss rfl rfl) ?_
    refine WL.nil ?_
    refine kg (hK_25' [(0, st w), (3, Value.slice (some ⟨b, 0, none⟩) 5 5), (4, Value.slice (some ⟨b_1', 0, none⟩) 4 4), (5, zI 3), (12, zB true)] _ ?_)
    refine h8 rfl ?_
    refine b5 ?_
    refine kg (hK_24' [(0, st w), (3, Value.slice (some ⟨b, 0, none⟩) 5 5), (4, Value.slice (some ⟨b_1', 0, none⟩) 4 4), (5, zI 3)] _ ?_)
    refine a7 (fun _ hK_26' => ?_)
    refine b7 ?_
    refine a7 (fun _ hK_27' => ?_)
    refine a6 ?_
    refine wm ?_
    refine wm ?_
    refine wv (OV.indexSl rfl rfl l9 (by decide) rfl) ?_
    refine wv (OV.load rfl (At.own 1 rfl) rfl c6) ?_
    refine wm ?_
    refine wv (OV.eqlS rfl rfl) ?_
    refine WL.nil ?_
    refine kg (hK_27' [(0, st w), (3, Value.slice (some ⟨b, 0, none⟩) 5 5), (4, Value.slice (some ⟨b_1', 0, none⟩) 4 4), (5, zI 3), (20, zB (decide (([105, 100] : List UInt8) = w)))] _ ?_)
    refine a8 (b := decide (([105, 100] : List UInt8) = w)) rfl (fun hb => ?_) (fun hb => ?_)
    ·replace h := e6 h hb
     refine a7 (fun _ hK_28' => ?_)
     refine a6 ?_
     refine wA ?_
     refine WL.nil ?_
     refine kg (hK_28' [(2, zI 1)] _ ?_)
     refine b8 ?_
     exact hE.ret [] rfl rfl (.inl ⟨_, h, rfl⟩) (d6.of1 rfl (RV.tmp rfl))
    ·replace h := d9 h hb
     refine b5 ?_
     refine kg (hK_26' [(0, st w), (3, Value.slice (some ⟨b, 0, none⟩) 5 5), (4, Value.slice (some ⟨b_1', 0, none⟩) 4 4), (5, zI 3)] _ ?_)
     refine a6 ?_
     refine wm ?_
     refine wv (OV.add rfl rfl ⟨by decide, by decide⟩) ?_
     refine wA ?_
     refine WL.nil ?_
     refine kg (hK_23' [(0, st w), (3, Value.slice (some ⟨b, 0, none⟩) 5 5), (4, Value.slice (some ⟨b_1', 0, none⟩) 4 4), (5, zI 4)] _ ?_)
     refine RC.succ (fun K0_29' hK_29' => ?_)
     refine a7 (fun _ hK_30' => ?_)
     refine a7 (fun _ hK_31' => ?_)
     refine a6 ?_
     refine wm ?_
     refine wm ?_
     refine wv (OV.lenS rfl l9) ?_
     refine wv (OV.lss rfl rfl) ?_
     refine WL.nil ?_
     refine kg (hK_31' [(0, st w), (3, Value.slice (some ⟨b, 0, none⟩) 5 5), (4, Value.slice (some ⟨b_1', 0, none⟩) 4 4), (5, zI 4), (12, zB true)] _ ?_)
     refine h8 rfl ?_
     refine b5 ?_
     refine kg (hK_30' [(0, st w), (3, Value.slice (some ⟨b, 0, none⟩) 5 5), (4, Value.slice (some ⟨b_1', 0, none⟩) 4 4), (5, zI 4)] _ ?_)
     refine a7 (fun _ hK_32' => ?_)
     refine b7 ?_
     refine a7 (fun _ hK_33' => ?_)
     refine a6 ?_
     refine wm ?_
     refine wm ?_
     refine wv (OV.indexSl rfl rfl l9 (by decide) rfl) ?_
     refine wv (OV.load rfl (At.own 1 rfl) rfl c6) ?_
     refine wm ?_
     refine wv (OV.eqlS rfl rfl) ?_
     refine WL.nil ?_
     refine kg (hK_33' [(0, st w), (3, Value.slice (some ⟨b, 0, none⟩) 5 5), (4, Value.slice (some ⟨b_1', 0, none⟩) 4 4), (5, zI 4), (20, zB (decide (([102, 111, 108, 100] : List UInt8) = w)))] _ ?_)
     refine a8 (b := decide (([102, 111, 108, 100] : List UInt8) = w)) rfl (fun hb => ?_) (fun hb => ?_)
     ·replace h := e6 h hb
      refine a7 (fun _ hK_34' => ?_)
      refine a6 ?_
      refine wA ?_
      refine WL.nil ?_
      refine kg (hK_34' [(2, zI 1)] _ ?_)
      refine b8 ?_
      exact hE.ret [] rfl rfl (.inl ⟨_, h, rfl⟩) (d6.of1 rfl (RV.tmp rfl))
     ·replace h := d9 h hb
      refine b5 ?_
      refine kg (hK_32' [(0, st w), (3, Value.slice (some ⟨b, 0, none⟩) 5 5), (4, Value.slice (some ⟨b_1', 0, none⟩) 4 4), (5, zI 4)] _ ?_)
      refine a6 ?_
      refine wm ?_
      refine wv (OV.add rfl rfl ⟨by decide, by decide⟩) ?_
      refine wA ?_
      refine WL.nil ?_
      refine kg (hK_29' [(0, st w), (3, Value.slice (some ⟨b, 0, none⟩) 5 5), (4, Value.slice (some ⟨b_1', 0, none⟩) 4 4), (5, zI 5)] _ ?_)
      refine RC.succ (fun K0_35' hK_35' => ?_)
      refine a7 (fun _ hK_36' => ?_)
      refine a7 (fun _ hK_37' => ?_)
      refine a6 ?_
      refine wm ?_
      refine wm ?_
      refine wv (OV.lenS rfl l9) ?_
      refine wv (OV.lss rfl rfl) ?_
      refine WL.nil ?_
      refine kg (hK_37' [(0, st w), (3, Value.slice (some ⟨b, 0, none⟩) 5 5), (4, Value.slice (some ⟨b_1', 0, none⟩) 4 4), (5, zI 5), (12, zB false)] _ ?_)
      refine e8 rfl ?_
      refine k9 ?_
      refine kg (hK_3' [(0, st w), (4, Value.slice (some ⟨b_1', 0, none⟩) 4 4)] _ ?_)
      refine a7 (fun _ hK_38' => ?_)
      refine a7 (fun _ hK_39' => ?_)
      refine a6 ?_
      refine wA ?_
      refine WL.nil ?_
      refine kg (hK_39' [(0, st w), (4, Value.slice (some ⟨b_1', 0, none⟩) 4 4), (6, zI 0)] _ ?_)
      refine b7 ?_
      refine adz 5 ?_
      refine RC.succ (fun K0_40' hK_40' => ?_)
      refine a7 (fun _ hK_41' => ?_)
      refine a7 (fun _ hK_42' => ?_)
      refine a6 ?_
      refine wm ?_
      refine wm ?_
      refine wv (OV.lenS rfl l9) ?_
      refine wv (OV.lss rfl rfl) ?_
      refine WL.nil ?_
      refine kg (hK_42' [(0, st w), (4, Value.slice (some ⟨b_1', 0, none⟩) 4 4), (6, zI 0), (24, zB true)] _ ?_)
      refine h8 rfl ?_
      refine b5 ?_
      refine kg (hK_41' [(0, st w), (4, Value.slice (some ⟨b_1', 0, none⟩) 4 4), (6, zI 0)] _ ?_)
      refine a7 (fun _ hK_43' => ?_)
      refine b7 ?_
      refine a7 (fun _ hK_44' => ?_)
      refine a6 ?_
      refine wm ?_
      refine wm ?_
      refine wv (OV.indexSl rfl rfl l9 (by decide) rfl) ?_
      refine wv (OV.load rfl (At.own 0 rfl) rfl c6) ?_
      refine wm ?_
      refine wv (OV.eqlS rfl rfl) ?_
      refine WL.nil ?_
      refine kg (hK_44' [(0, st w), (4, Value.slice (some ⟨b_1', 0, none⟩) 4 4), (6, zI 0), (32, zB (decide (([100, 101, 108] : List UInt8) = w)))] _ ?_)
      refine a8 (b := decide (([100, 101, 108] : List UInt8) = w)) rfl (fun hb => ?_) (fun hb => ?_)
      ·replace h := e6 h hb
       refine a7 (fun _ hK_45' => ?_)
       refine a6 ?_
       refine wA ?_
       refine WL.nil ?_
       refine kg (hK_45' [(2, zI 2)] _ ?_)
       refine b8 ?_
       exact hE.ret [] rfl rfl (.inl ⟨_, h, rfl⟩) (d6.of1 rfl (RV.tmp rfl))
      ·replace h := d9 h hb
       refine b5 ?_
       refine kg (hK_43' [(0, st w), (4, Value.slice (some ⟨b_1', 0, none⟩) 4 4), (6, zI 0)] _ ?_)
       refine a6 ?_
       refine wm ?_
       refine wv (OV.add rfl rfl ⟨by decide, by decide⟩) ?_
       refine wA ?_
       refine WL.nil ?_
       refine kg (hK_40' [(0, st w), (4, Value.slice (some ⟨b_1', 0, none⟩) 4 4), (6, zI 1)] _ ?_)
       refine RC.succ (fun K0_46' hK_46' => ?_)
       refine a7 (fun _ hK_47' => ?_)
       refine a7 (fun _ hK_48' => ?_)
       refine a6 ?_
       refine wm ?_
       refine wm ?_
       refine wv (OV.lenS rfl l9) ?_
       refine wv (OV.lss rfl rfl) ?_
       refine WL.nil ?_
       refine kg (hK_48' [(0, st w), (4, Value.slice (some ⟨b_1', 0, none⟩) 4 4), (6, zI 1), (24, zB true)] _ ?_)
       refine h8 rfl ?_
       refine b5 ?_
       refine kg (hK_47' [(0, st w), (4, Value.slice (some ⟨b_1', 0, none⟩) 4 4), (6, zI 1)] _ ?_)
       refine a7 (fun _ hK_49' => ?_)
       refine b7 ?_
       refine a7 (fun _ hK_50' => ?_)
       refine a6 ?_
       refine wm ?_
       refine wm ?_
       refine wv (OV.indexSl rfl rfl l9 (by decide) rfl) ?_
       refine wv (OV.load rfl (At.own 0 rfl) rfl c6) ?_
       refine wm ?_
       refine wv (OV.eqlS rfl rfl) ?_
       refine WL.nil ?_
       refine kg (hK_50' [(0, st w), (4, Value.slice (some ⟨b_1', 0, none⟩) 4 4), (6, zI 1), (32, zB (decide (([108, 101, 102, 116] : List UInt8) = w)))] _ ?_)
       refine a8 (b := decide (([108, 101, 102, 116] : List UInt8) = w)) rfl (fun hb => ?_) (fun hb => ?_)
       ·replace h := e6 h hb
        refine a7 (fun _ hK_51' => ?_)
        refine a6 ?_
        refine wA ?_
        refine WL.nil ?_
        refine kg (hK_51' [(2, zI 2)] _ ?_)
        refine b8 ?_
        exact hE.ret [] rfl rfl (.inl ⟨_, h, rfl⟩) (d6.of1 rfl (RV.tmp rfl))
       ·replace h := d9 h hb
        refine b5 ?_
        refine kg (hK_49' [(0, st w), (4, Value.slice (some ⟨b_1', 0, none⟩) 4 4), (6, zI 1)] _ ?_)
        refine a6 ?_
        refine wm ?_
        refine wv (OV.add rfl rfl ⟨by decide, by decide⟩) ?_
        refine wA ?_
        refine WL.nil ?_
        refine kg (hK_46' [(0, st w), (4, Value.slice (some ⟨b_1', 0, none⟩) 4 4), (6, zI 2)] _ ?_)
        refine RC.succ (fun K0_52' hK_52' => ?_)
        refine a7 (fun _ hK_53' => ?_)
        refine a7 (fun _ hK_54' => ?_)
        refine a6 ?_
        refine wm ?_
        refine wm ?_
        refine wv (OV.lenS rfl l9) ?_
        refine wv (OV.lss rfl rfl) ?_
        refine WL.nil ?_
        refine kg (hK_54' [(0, st w), (4, Value.slice (some ⟨b_1', 0, none⟩) 4 4), (6, zI 2), (24, zB true)] _ ?_)
        refine h8 rfl ?_
        refine b5 ?_
        refine kg (hK_53' [(0, st w), (4, Value.slice (some ⟨b_1', 0, none⟩) 4 4), (6, zI 2)] _ ?_)
        refine a7 (fun _ hK_55' => ?_)
        refine b7 ?_
        refine a7 (fun _ hK_56' => ?_)
        refine a6 ?_
        refine wm ?_
        refine wm ?_
        refine wv (OV.indexSl rfl rfl l9 (by decide) rfl) ?_
        refine wv (OV.load rfl (At.own 0 rfl) rfl c6) ?_
        refine wm ?_
        refine wv (OV.eqlS rfl rfl) ?_
        refine WL.nil ?_
        refine kg (hK_56' [(0, st w), (4, Value.slice (some ⟨b_1', 0, none⟩) 4 4), (6, zI 2), (32, zB (decide (([114, 105, 103, 104, 116] : List UInt8) = w)))] _ ?_)
        refine a8 (b := decide (([114, 105, 103, 104, 116] : List UInt8) = w)) rfl (fun hb => ?_) (fun hb => ?_)
        ·replace h := e6 h hb
         refine a7 (fun _ hK_57' => ?_)
         refine a6 ?_
         refine wA ?_
         refine WL.nil ?_
         refine kg (hK_57' [(2, zI 2)] _ ?_)
         refine b8 ?_
         exact hE.ret [] rfl rfl (.inl ⟨_, h, rfl⟩) (d6.of1 rfl (RV.tmp rfl))
        ·replace h := d9 h hb
         refine b5 ?_
         refine kg (hK_55' [(0, st w), (4, Value.slice (some ⟨b_1', 0, none⟩) 4 4), (6, zI 2)] _ ?_)
         refine a6 ?_
         refine wm ?_
         refine wv (OV.add rfl rfl ⟨by decide, by decide⟩) ?_
         refine wA ?_
         refine WL.nil ?_
         refine kg (hK_52' [(0, st w), (4, Value.slice (some ⟨b_1', 0, none⟩) 4 4), (6, zI 3)] _ ?_)
         refine RC.succ (fun K0_58' hK_58' => ?_)
         refine a7 (fun _ hK_59' => ?_)
         refine a7 (fun _ hK_60' => ?_)
         refine a6 ?_
         refine wm ?_
         refine wm ?_
         refine wv (OV.lenS rfl l9) ?_
         refine wv (OV.lss rfl rfl) ?_
         refine WL.nil ?_
         refine kg (hK_60' [(0, st w), (4, Value.slice (some ⟨b_1', 0, none⟩) 4 4), (6, zI 3), (24, zB true)] _ ?_)
         refine h8 rfl ?_
         refine b5 ?_
         refine kg (hK_59' [(0, st w), (4, Value.slice (some ⟨b_1', 0, none⟩) 4 4), (6, zI 3)] _ ?_)
         refine a7 (fun _ hK_61' => ?_)
         refine b7 ?_
         refine a7 (fun _ hK_62' => ?_)
         refine a6 ?_
         refine wm ?_
         refine wm ?_
         refine wv (OV.indexSl rfl rfl l9 (by decide) rfl) ?_
         refine wv (OV.load rfl (At.own 0 rfl) rfl c6) ?_
         refine wm ?_
         refine wv (OV.eqlS rfl rfl) ?_
         refine WL.nil ?_
         refine kg (hK_62' [(0, st w), (4, Value.slice (some ⟨b_1', 0, none⟩) 4 4), (6, zI 3), (32, zB (decide (([100, 101, 102, 97, 117, 108, 116] : List UInt8) = w)))] _ ?_)
         refine a8 (b := decide (([100, 101, 102, 97, 117, 108, 116] : List UInt8) = w)) rfl (fun hb => ?_) (fun hb => ?_)
         ·replace h := e6 h hb
          refine a7 (fun _ hK_63' => ?_)
          refine a6 ?_
          refine wA ?_
          refine WL.nil ?_
          refine kg (hK_63' [(2, zI 2)] _ ?_)
          refine b8 ?_
          exact hE.ret [] rfl rfl (.inl ⟨_, h, rfl⟩) (d6.of1 rfl (RV.tmp rfl))
         ·replace h := d9 h hb
          refine b5 ?_
          refine kg (hK_61' [(0, st w), (4, Value.slice (some ⟨b_1', 0, none⟩) 4 4), (6, zI 3)] _ ?_)
          refine a6 ?_
          refine wm ?_
          refine wv (OV.add rfl rfl ⟨by decide, by decide⟩) ?_
          refine wA ?_
          refine WL.nil ?_
          refine kg (hK_58' [(0, st w), (4, Value.slice (some ⟨b_1', 0, none⟩) 4 4), (6, zI 4)] _ ?_)
          refine RC.succ (fun K0_64' hK_64' => ?_)
          refine a7 (fun _ hK_65' => ?_)
          refine a7 (fun _ hK_66' => ?_)
          refine a6 ?_
          refine wm ?_
          refine wm ?_
          refine wv (OV.lenS rfl l9) ?_
          refine wv (OV.lss rfl rfl) ?_
          refine WL.nil ?_
          refine kg (hK_66' [(0, st w), (4, Value.slice (some ⟨b_1', 0, none⟩) 4 4), (6, zI 4), (24, zB false)] _ ?_)
          refine e8 rfl ?_
          refine k9 ?_
          refine kg (hK_38' [(0, st w)] _ ?_)
          refine a7 (fun _ hK_67' => ?_)
          refine a7 (fun _ hK_68' => ?_)
          refine a6 ?_
          refine wm ?_
          refine wv (OV.eqlS rfl rfl) ?_
          refine WL.nil ?_
          refine kg (hK_68' [(0, st w), (34, zB (decide (w = ([110, 111, 114, 109] : List UInt8))))] _ ?_)
          refine a8 (b := decide (w = ([110, 111, 114, 109] : List UInt8))) rfl (fun hb => ?_) (fun hb => ?_)
          ·replace h := e6 h hb
           refine a7 (fun _ hK_69' => ?_)
           refine a6 ?_
           refine wA ?_
           refine WL.nil ?_
           refine kg (hK_69' [(2, zI 3)] _ ?_)
           refine b8 ?_
           exact hE.ret [] rfl rfl (.inl ⟨_, h, rfl⟩) (d6.of1 rfl (RV.tmp rfl))
          ·replace h := d9 h hb
           refine b5 ?_
           refine kg (hK_67' [(0, st w)] _ ?_)
           refine a7 (fun _ hK_70' => ?_)
           refine a7 (fun _ hK_71' => ?_)
           refine a6 ?_
           refine wm ?_
           refine wv (OV.eqlS rfl rfl) ?_
           refine WL.nil ?_
           refine kg (hK_71' [(36, zB (decide (w = ([108, 101, 116] : List UInt8))))] _ ?_)
           refine a8 (b := decide (w = ([108, 101, 116] : List UInt8))) rfl (fun hb => ?_) (fun hb => ?_)
           ·replace h := e6 h hb
            refine a7 (fun _ hK_72' => ?_)
            refine a6 ?_
            refine wA ?_
            refine WL.nil ?_
            refine kg (hK_72' [(2, zI (-1))] _ ?_)
            refine b8 ?_
            exact hE.ret [] rfl rfl (.inl ⟨_, h, rfl⟩) (d6.of1 rfl (RV.tmp rfl))
           ·replace h := d9 h hb
            refine b5 ?_
            refine KX.go (hK_70' [] _ ?_) trivial
            refine a7 (fun _ hK_73' => ?_)
            refine a6 ?_
            refine wA ?_
            refine WL.nil ?_
            refine kg (hK_73' [(2, zI 0)] _ ?_)
            refine b8 ?_
            exact hE.ret [] rfl rfl (.inl ⟨_, h, rfl⟩) (d6.of1 rfl (RV.tmp rfl))
def aj9 (sign : List UInt8) (K : Int → Prop) : Prop :=
 (if (decide (sign = ([124] : List UInt8))) = true then
  K 0
 else
  ∃ (J0 : Bool → Prop),
   (∀ (t6 : Bool), J0 t6 →
    (if t6 = true then
     K 1
    else
     (if (decide (sign = ([62, 62] : List UInt8))) = true then
      K 2
     else
      (if (decide (sign = ([126] : List UInt8))) = true then
       K 3
      else
       (if (decide (sign = ([46] : List UInt8))) = true then
        K 4
       else
        K (-1)))))) ∧
   (if (decide (sign = ([38] : List UInt8))) = true then
    J0 (decide (sign = ([38] : List UInt8)))
   else
    J0 (decide (sign = ([45] : List UInt8)))))
theorem avk  (sign : List UInt8) (K : Int → Prop) (h : aj9 sign K) :
  d7 Tryd.prog 52 [st sign] [] [] (fun o => (∃ (v : Int), K v ∧ o = .ret (zI v) []) ∨ (False)) := by
 unfold aj9 at h
 refine c7 (n := 15) (L0 := [(0, st sign)]) Tryd.func52 rfl rfl rfl rfl (fun w0 M Q hE => ?_)
 refine a7 (fun _ hK => ?_)
 refine a6 ?_
 refine wA ?_
 refine WL.nil ?_
 refine kg (hK [(0, st sign)] _ ?_)
 refine a7 (fun _ hK_1' => ?_)
 refine a7 (fun _ hK_2' => ?_)
 refine a6 ?_
 refine wm ?_
 refine WL.nil ?_
 refine kg (hK_2' [(3, st sign)] _ ?_)
 refine b7 ?_
 refine a7 (fun _ hK_3' => ?_)
 refine a6 ?_
 refine wv (OV.eqlS rfl rfl) ?_
 refine wA ?_
 refine WL.nil ?_
 refine kg (hK_3' [(3, st sign), (4, zB (decide (sign = ([124] : List UInt8))))] _ ?_)
 refine a8 (b := decide (sign = ([124] : List UInt8))) rfl (fun hb => ?_) (fun hb => ?_)
 ·replace h := e6 h hb
  refine a7 (fun _ hK_4' => ?_)
  refine a6 ?_
  refine wA ?_
  refine WL.nil ?_
  refine kg (hK_4' [(2, zI 0)] _ ?_)
  refine b8 ?_
  exact hE.ret [] rfl rfl (.inl ⟨_, h, rfl⟩) (d6.of1 rfl (RV.tmp rfl))
 ·replace h := d9 h hb
  obtain ⟨J0, hJ, h⟩ := h
  refine l4 (X := Bool) (fun σ => J0 σ) (fun σ => [(3, st sign), (6, zB σ)]) (fun σ => []) ?_ (fun K0_6' hK_6' => ?_)
  ·rintro t6 hj
   replace h := hJ t6 hj
   show WC _ _ _ _ [(3, st sign), (6, zB t6)] []
   refine a8 (b := t6) rfl (fun hb => ?_) (fun hb => ?_)
   ·replace h := e6 h hb
    refine a7 (fun _ hK_7' => ?_)
    refine a6 ?_
    refine wA ?_
    refine WL.nil ?_
    refine kg (hK_7' [(2, zI 1)] _ ?_)
    refine b8 ?_
    exact hE.ret [] rfl rfl (.inl ⟨_, h, rfl⟩) (d6.of1 rfl (RV.tmp rfl))
   ·replace h := d9 h hb
    refine a7 (fun _ hK_8' => ?_)
    refine a6 ?_
    refine wv (OV.eqlS rfl rfl) ?_
    refine wA ?_
    refine WL.nil ?_
    refine kg (hK_8' [(3, st sign), (9, zB (decide (sign = ([62, 62] : List UInt8))))] _ ?_)
    refine a8 (b := decide (sign = ([62, 62] : List UInt8))) rfl (fun hb => ?_) (fun hb => ?_)
    ·replace h := e6 h hb
     refine a7 (fun _ hK_9' => ?_)
     refine a6 ?_
     refine wA ?_
     refine WL.nil ?_
     refine kg (hK_9' [(2, zI 2)] _ ?_)
     refine b8 ?_
     exact hE.ret [] rfl rfl (.inl ⟨_, h, rfl⟩) (d6.of1 rfl (RV.tmp rfl))
    ·replace h := d9 h hb
     refine a7 (fun _ hK_10' => ?_)
     refine a6 ?_
     refine wv (OV.eqlS rfl rfl) ?_
     refine wA ?_
     refine WL.nil ?_
     refine kg (hK_10' [(3, st sign), (11, zB (decide (sign = ([126] : List UInt8))))] _ ?_)
     refine a8 (b := decide (sign = ([126] : List UInt8))) rfl (fun hb => ?_) (fun hb => ?_)
     ·replace h := e6 h hb
      refine a7 (fun _ hK_11' => ?_)
      refine a6 ?_
      refine wA ?_
      refine WL.nil ?_
      refine kg (hK_11' [(2, zI 3)] _ ?_)
      refine b8 ?_
      exact hE.ret [] rfl rfl (.inl ⟨_, h, rfl⟩) (d6.of1 rfl (RV.tmp rfl))
     ·replace h := d9 h hb
      refine a7 (fun _ hK_12' => ?_)
      refine a6 ?_
      refine wv (OV.eqlS rfl rfl) ?_
      refine wA ?_
      refine WL.nil ?_
      refine kg (hK_12' [(13, zB (decide (sign = ([46] : List UInt8))))] _ ?_)
      refine a8 (b := decide (sign = ([46] : List UInt8))) rfl (fun hb => ?_) (fun hb => ?_)
      ·replace h := e6 h hb
       refine a7 (fun _ hK_13' => ?_)
       refine a6 ?_
       refine wA ?_
       refine WL.nil ?_
       refine kg (hK_13' [(2, zI 4)] _ ?_)
       refine b8 ?_
       exact hE.ret [] rfl rfl (.inl ⟨_, h, rfl⟩) (d6.of1 rfl (RV.tmp rfl))
      ·replace h := d9 h hb
       refine b5 ?_
       refine KX.go (hK_1' [] _ ?_) trivial
       refine a7 (fun _ hK_14' => ?_)
       refine a6 ?_
       refine wA ?_
       refine WL.nil ?_
       refine kg (hK_14' [(2, zI (-1))] _ ?_)
       refine b8 ?_
       exact hE.ret [] rfl rfl (.inl ⟨_, h, rfl⟩) (d6.of1 rfl (RV.tmp rfl))
  ·skip
   refine a7 (fun _ hK_15' => ?_)
   refine a6 ?_
   refine wv (OV.eqlS rfl rfl) ?_
   refine wA ?_
   refine WL.nil ?_
   refine kg (hK_15' [(3, st sign), (6, zB (decide (sign = ([38] : List UInt8))))] _ ?_)
   refine a8 (b := decide (sign = ([38] : List UInt8))) rfl (fun hb => ?_) (fun hb => ?_)
   ·replace h := e6 h hb
    refine b5 ?_
    exact kh (hK_6' (decide (sign = ([38] : List UInt8))) h) []
   ·replace h := d9 h hb
    refine a6 ?_
    refine wv (OV.eqlS rfl rfl) ?_
    refine wA ?_
    refine WL.nil ?_
    exact kh (hK_6' (decide (sign = ([45] : List UInt8))) h) []
def aki (ts : List Tok) (ns : List NdV) (k0 : Int) (op0 : Int) (er0 : Int) (ea0 : Int) (dv0 : Value) (mn0 : Int) (B0 : List (Nat × Obj)) (e : Int) (K : Int → Int → Int → Int → Int → Value → Int → (List Tok) → (List NdV) → (List (Nat × Obj)) → Prop) : Prop :=
 ∃ (J0 : Int → Int → Prop),
  (∀ (s_3 : Int) (s_4 : Int), J0 s_3 s_4 →
   K 0 k0 op0 s_3 s_4 dv0 mn0 ts ns B0) ∧
  (if (decide (er0 = 0)) = true then
   (0 ≤ k0 ∧ k0 < (ts.length : Int)) ∧
   J0 e ((ts.getD (k0).toNat default).2.1)
  else
   J0 er0 ea0)
theorem auc (pb : Nat) (wa : Value) (wn : Value) (ts : List Tok) (ns : List NdV) (k0 : Int) (op0 : Int) (er0 : Int) (ea0 : Int) (dv0 : Value) (mn0 : Int) (B0 : List (Nat × Obj)) (e : Int) (K : Int → Int → Int → Int → Int → Value → Int → (List Tok) → (List NdV) → (List (Nat × Obj)) → Prop) (h : aki ts ns k0 op0 er0 ea0 dv0 mn0 B0 e K) :
  d7 Tryd.prog 20 [zP pb, zI e] [] [HA.blk pb (.cells [wa, zI k0, zI op0, zI er0, zI ea0, wn, dv0, zI mn0].toArray 62 (0, 0)), HA.row wa 64 3 ts.length (ts.flatMap d8), HA.row wn 69 4 ns.length (ns.flatMap ndC), pool B0] (fun o => (∃ (v : Int) (d_2' : Int) (d_3' : Int) (d_4' : Int) (d_5' : Int) (d_6' : Value) (d_7' : Int) (d : List Tok) (d_1' : List NdV) (D : List (Nat × Obj)), K v d_2' d_3' d_4' d_5' d_6' d_7' d d_1' D ∧ o = .ret (zI v) [HA.blk pb (.cells [wa, zI d_2', zI d_3', zI d_4', zI d_5', wn, d_6', zI d_7'].toArray 62 (0, 0)), HA.row wa 64 3 d.length (d.flatMap d8), HA.row wn 69 4 d_1'.length (d_1'.flatMap ndC), pool D]) ∨ (False)) := by
 unfold aki at h
 refine c7 (n := 28) (L0 := [(0, zP pb), (1, zI e)]) Tryd.func20 rfl rfl rfl rfl (fun w0 M Q hE => ?_)
 refine a7 (fun _ hK => ?_)
 refine a6 ?_
 refine wA ?_
 refine WL.nil ?_
 refine kg (hK [(0, zP pb), (1, zI e)] _ ?_)
 obtain ⟨J0, hJ, h⟩ := h
 refine l4 (X := Int × Int) (fun σ => J0 σ.1 σ.2) (fun σ => []) (fun σ => [HA.blk pb (.cells [wa, zI k0, zI op0, zI σ.1, zI σ.2, wn, dv0, zI mn0].toArray 62 (0, 0)), HA.row wa 64 3 ts.length (ts.flatMap d8), HA.row wn 69 4 ns.length (ns.flatMap ndC), pool B0]) ?_ (fun K0_3' hK_3' => ?_)
 ·rintro ⟨s_3, s_4⟩ hj
  replace h := hJ s_3 s_4 hj
  show WC _ _ _ _ [] [HA.blk pb (.cells [wa, zI k0, zI op0, zI s_3, zI s_4, wn, dv0, zI mn0].toArray 62 (0, 0)), HA.row wa 64 3 ts.length (ts.flatMap d8), HA.row wn 69 4 ns.length (ns.flatMap ndC), pool B0]
  refine a7 (fun _ hK_4' => ?_)
  refine a6 ?_
  refine wA ?_
  refine WL.nil ?_
  refine kg (hK_4' [(4, zI 0)] _ ?_)
  refine b8 ?_
  exact hE.ret [0, 1, 2, 3] rfl rfl (.inl ⟨_, _, _, _, _, _, _, _, _, _, h, rfl⟩) (d6.of1 rfl (RV.tmp rfl))
 ·skip
  refine a7 (fun _ hK_5' => ?_)
  refine a6 ?_
  refine wm ?_
  refine wv (OV.nilCheck rfl) ?_
  refine wv (OV.fieldAddr0 rfl p8) ?_
  refine wv (OV.load rfl (At.own 0 rfl) rfl b4) ?_
  refine wv (OV.eql rfl rfl) ?_
  refine WL.nil ?_
  refine kg (hK_5' [(0, zP pb), (1, zI e), (9, zB (decide (er0 = 0)))] _ ?_)
  refine a8 (b := decide (er0 = 0)) rfl (fun hb => ?_) (fun hb => ?_)
  ·replace h := e6 h hb
   refine a7 (fun _ hK_6' => ?_)
   refine a6 ?_
   refine wm ?_
   refine wm ?_
   refine wv (OV.nilCheck rfl) ?_
   refine wv (OV.fieldAddr0 rfl p8) ?_
   refine WL.store (vs := [zI e]) (cs' := [wa, zI k0, zI op0, zI e, zI ea0, wn, dv0, zI mn0]) 0 rfl rfl rfl rfl f9 (Nat.le_of_ble_eq_true rfl) rfl rfl rfl ?_
   refine WL.nil ?_
   refine kg (hK_6' [(0, zP pb)] _ ?_)
   refine k8 12 [] f0 (by kernel_rfl) rfl (fun T_1' hT_1' => ?_)
   refine fv (fun _ => OV.move rfl) ?_
   refine fv (fun _ => OV.move rfl) ?_
   refine fv (fun _ => OV.nilCheck rfl) ?_
   refine fv (fun _ => OV.fieldAddr0 rfl l3) ?_
   refine fv (fun _ => OV.load rfl (At.own 0 rfl) rfl p6) ?_
   refine fv (fun _ => OV.move rfl) ?_
   refine fv (fun _ => OV.nilCheck rfl) ?_
   refine fv (fun _ => OV.fieldAddr0 rfl e7) ?_
   refine fv (fun _ => OV.load rfl (At.own 0 rfl) rfl b4) ?_
   obtain ⟨o_1', h⟩ := h
   refine fv (fun _ => OV.indexRow 1 rfl rfl rfl q8 o_1') ?_
   refine fv (fun _ => OV.fieldAddr rfl s5) ?_
   refine fv (fun _ => OV.loadEF (f := d8) (o := 1) 1 rfl rfl p7 (by omega) rfl b4) ?_
   refine FL.weak (L' := fun γ => [(14, zP pb), (25, zI ((ts.getD (k0).toNat default).2.1))]) (fun γ => ⟨rfl, rfl, trivial⟩) (FL.nil (hT_1' (fun γ => [(14, zP pb), (25, zI ((ts.getD (k0).toNat default).2.1))]) (fun γ => ?_)))
   refine wv (OV.nilCheck rfl) ?_
   refine wv (OV.fieldAddr0 rfl af9) ?_
   refine WL.store (vs := [zI ((ts.getD (k0).toNat default).2.1)]) (cs' := [wa, zI k0, zI op0, zI e, zI ((ts.getD (k0).toNat default).2.1), wn, dv0, zI mn0]) 0 rfl rfl rfl rfl f9 (Nat.le_of_ble_eq_true rfl) rfl rfl rfl ?_
   refine WL.nil ?_
   exact KX.goH (hK_3' (e, (ts.getD (k0).toNat default).2.1) h) trivial [0, 1, 2, 3] rfl rfl
  ·replace h := d9 h hb
   refine b5 ?_
   exact KX.goH (hK_3' (er0, ea0) h) trivial [0, 1, 2, 3] rfl rfl
def ajn (ts : List Tok) (ns : List NdV) (k0 : Int) (op0 : Int) (er0 : Int) (ea0 : Int) (dv0 : Value) (mn0 : Int) (B0 : List (Nat × Obj)) (m : List UInt8) (K : Bool → Int → Int → Int → Int → Value → Int → (List Tok) → (List NdV) → (List (Nat × Obj)) → Prop) : Prop :=
 ((decide (er0 = 0)) = true → (0 ≤ k0 ∧ k0 < (ts.length : Int))) ∧
 (((decide (er0 = 0)) && (decide ((ts.getD (k0).toNat default).1 = 4))) = true → (0 ≤ k0 ∧ k0 < (ts.length : Int))) ∧
 K (((decide (er0 = 0)) && (decide ((ts.getD (k0).toNat default).1 = 4))) && (decide ((ts.getD (k0).toNat default).2.2 = m))) k0 op0 er0 ea0 dv0 mn0 ts ns B0
theorem avp (pb : Nat) (wa : Value) (wn : Value) (ts : List Tok) (ns : List NdV) (k0 : Int) (op0 : Int) (er0 : Int) (ea0 : Int) (dv0 : Value) (mn0 : Int) (B0 : List (Nat × Obj)) (m : List UInt8) (K : Bool → Int → Int → Int → Int → Value → Int → (List Tok) → (List NdV) → (List (Nat × Obj)) → Prop) (h : ajn ts ns k0 op0 er0 ea0 dv0 mn0 B0 m K) :
  d7 Tryd.prog 50 [zP pb, st m] [] [HA.blk pb (.cells [wa, zI k0, zI op0, zI er0, zI ea0, wn, dv0, zI mn0].toArray 62 (0, 0)), HA.row wa 64 3 ts.length (ts.flatMap d8), HA.row wn 69 4 ns.length (ns.flatMap ndC), pool B0] (fun o => (∃ (v : Bool) (d_2' : Int) (d_3' : Int) (d_4' : Int) (d_5' : Int) (d_6' : Value) (d_7' : Int) (d : List Tok) (d_1' : List NdV) (D : List (Nat × Obj)), K v d_2' d_3' d_4' d_5' d_6' d_7' d d_1' D ∧ o = .ret (zB v) [HA.blk pb (.cells [wa, zI d_2', zI d_3', zI d_4', zI d_5', wn, d_6', zI d_7'].toArray 62 (0, 0)), HA.row wa 64 3 d.length (d.flatMap d8), HA.row wn 69 4 d_1'.length (d_1'.flatMap ndC), pool D]) ∨ (False)) := by
 unfold ajn at h
 refine c7 (n := 39) (L0 := [(0, zP pb), (1, st m)]) Tryd.func50 rfl rfl rfl rfl (fun w0 M Q hE => ?_)
 refine a7 (fun _ hK => ?_)
 refine a6 ?_
 refine wA ?_
 refine WL.nil ?_
 refine kg (hK [(0, zP pb), (1, st m)] _ ?_)
 refine a7 (fun _ hK_1' => ?_)
 refine u4 [] f0 (by kernel_rfl) rfl (fun T hT => ?_)
 refine fv (fun _ => OV.move rfl) ?_
 refine fv (fun _ => OV.nilCheck rfl) ?_
 refine fv (fun _ => OV.fieldAddr0 rfl p8) ?_
 refine fv (fun _ => OV.load rfl (At.own 0 rfl) rfl b4) ?_
 refine fv (fun _ => OV.eql rfl rfl) ?_
 refine fv (fun _ => OV.move rfl) ?_
 obtain ⟨o_1', h⟩ := h
 refine FL.cut 13 rfl (fun _ => [(0, zP pb), (1, st m), (23, zB ((decide (er0 = 0)) && (decide ((ts.getD (k0).toNat default).1 = 4))))]) ?_ (fun K0_2' hK_2' => ?_)
 rotate_left
 ·refine FL.split (decide (er0 = 0)) (fun hb => ?_) (fun hb => ?_)
  ·have o := o_1' hb
   refine FL.set 10 (fun _ => rfl) (congrArg zB hb) ?_
   refine fv (fun _ => OV.move rfl) ?_
   refine fv (fun _ => OV.nilCheck rfl) ?_
   refine fv (fun _ => OV.fieldAddr0 rfl l3) ?_
   refine fv (fun _ => OV.load rfl (At.own 0 rfl) rfl p6) ?_
   refine fv (fun _ => OV.move rfl) ?_
   refine fv (fun _ => OV.nilCheck rfl) ?_
   refine fv (fun _ => OV.fieldAddr0 rfl e7) ?_
   refine fv (fun _ => OV.load rfl (At.own 0 rfl) rfl b4) ?_
   refine fv (fun _ => OV.indexRow 1 rfl rfl rfl q8 o) ?_
   refine fv (fun _ => OV.fieldAddr rfl m0) ?_
   refine fv (fun _ => OV.loadEF (f := d8) (o := 0) 1 rfl rfl p7 (by omega) rfl b4) ?_
   refine fv (fun _ => OV.eql rfl rfl) ?_
   refine fv (fun _ => OV.pickT rfl rfl) ?_
   refine FL.set 23 (fun _ => rfl) (bT (v := decide ((ts.getD (k0).toNat default).1 = 4)) hb) ?_
   exact FL.weak (L' := fun _ => [(0, zP pb), (1, st m), (23, zB ((decide (er0 = 0)) && (decide ((ts.getD (k0).toNat default).1 = 4))))]) (fun _ => ⟨rfl, rfl, rfl, trivial⟩) (FL.nil hK_2')
  ·refine FL.set 10 (fun _ => rfl) (congrArg zB hb) ?_
   refine FL.skip rfl (fun _ => rfl) rfl rfl ?_
   refine FL.skip rfl (fun _ => rfl) rfl rfl ?_
   refine FL.skip rfl (fun _ => rfl) rfl rfl ?_
   refine FL.skip rfl (fun _ => rfl) rfl rfl ?_
   refine FL.skip rfl (fun _ => rfl) rfl rfl ?_
   refine FL.skip rfl (fun _ => rfl) rfl rfl ?_
   refine FL.skip rfl (fun _ => rfl) rfl rfl ?_
   refine FL.skip rfl (fun _ => rfl) rfl rfl ?_
   refine FL.skip rfl (fun _ => rfl) rfl rfl ?_
   refine FL.skip rfl (fun _ => rfl) rfl rfl ?_
   refine FL.skip rfl (fun _ => rfl) rfl rfl ?_
   refine FL.skip rfl (fun _ => rfl) rfl rfl ?_
   refine fv (fun _ => OV.pickF rfl rfl) ?_
   refine FL.set 23 (fun _ => rfl) (bF (v := decide ((ts.getD (k0).toNat default).1 = 4)) hb) ?_
   exact FL.weak (L' := fun _ => [(0, zP pb), (1, st m), (23, zB ((decide (er0 = 0)) && (decide ((ts.getD (k0).toNat default).1 = 4))))]) (fun _ => ⟨rfl, rfl, rfl, trivial⟩) (FL.nil hK_2')
 refine fv (fun _ => OV.move rfl) ?_
 obtain ⟨o_3', h⟩ := h
 refine FL.cut 14 rfl (fun _ => [(38, zB (((decide (er0 = 0)) && (decide ((ts.getD (k0).toNat default).1 = 4))) && (decide ((ts.getD (k0).toNat default).2.2 = m))))]) ?_ (fun K0_3' hK_3' => ?_)
 rotate_left
 ·refine FL.split ((decide (er0 = 0)) && (decide ((ts.getD (k0).toNat default).1 = 4))) (fun hb => ?_) (fun hb => ?_)
  ·have o_2' := o_3' hb
   refine FL.set 24 (fun _ => rfl) (congrArg zB hb) ?_
   refine fv (fun _ => OV.move rfl) ?_
   refine fv (fun _ => OV.nilCheck rfl) ?_
   refine fv (fun _ => OV.fieldAddr0 rfl l3) ?_
   refine fv (fun _ => OV.load rfl (At.own 0 rfl) rfl p6) ?_
   refine fv (fun _ => OV.move rfl) ?_
   refine fv (fun _ => OV.nilCheck rfl) ?_
   refine fv (fun _ => OV.fieldAddr0 rfl e7) ?_
   refine fv (fun _ => OV.load rfl (At.own 0 rfl) rfl b4) ?_
   refine fv (fun _ => OV.indexRow 1 rfl rfl rfl q8 o_2') ?_
   refine fv (fun _ => OV.fieldAddr rfl l0) ?_
   refine fv (fun _ => OV.loadEF (f := d8) (o := 2) 1 rfl rfl p7 (by omega) rfl c6) ?_
   refine fv (fun _ => OV.move rfl) ?_
   refine fv (fun _ => OV.eqlS rfl rfl) ?_
   refine fv (fun _ => OV.pickT rfl rfl) ?_
   refine FL.set 38 (fun _ => rfl) (bT (v := decide ((ts.getD (k0).toNat default).2.2 = m)) hb) ?_
   exact FL.weak (L' := fun _ => [(38, zB (((decide (er0 = 0)) && (decide ((ts.getD (k0).toNat default).1 = 4))) && (decide ((ts.getD (k0).toNat default).2.2 = m))))]) (fun _ => ⟨rfl, trivial⟩) (FL.nil hK_3')
  ·refine FL.set 24 (fun _ => rfl) (congrArg zB hb) ?_
   refine FL.skip rfl (fun _ => rfl) rfl rfl ?_
   refine FL.skip rfl (fun _ => rfl) rfl rfl ?_
   refine FL.skip rfl (fun _ => rfl) rfl rfl ?_
   refine FL.skip rfl (fun _ => rfl) rfl rfl ?_
   refine FL.skip rfl (fun _ => rfl) rfl rfl ?_
   refine FL.skip rfl (fun _ => rfl) rfl rfl ?_
   refine FL.skip rfl (fun _ => rfl) rfl rfl ?_
   refine FL.skip rfl (fun _ => rfl) rfl rfl ?_
   refine FL.skip rfl (fun _ => rfl) rfl rfl ?_
   refine FL.skip rfl (fun _ => rfl) rfl rfl ?_
   refine FL.skip rfl (fun _ => rfl) rfl rfl ?_
   refine FL.skip rfl (fun _ => rfl) rfl rfl ?_
   refine FL.skip rfl (fun _ => rfl) rfl rfl ?_
   refine fv (fun _ => OV.pickF rfl rfl) ?_
   refine FL.set 38 (fun _ => rfl) (bF (v := decide ((ts.getD (k0).toNat default).2.2 = m)) hb) ?_
   exact FL.weak (L' := fun _ => [(38, zB (((decide (er0 = 0)) && (decide ((ts.getD (k0).toNat default).1 = 4))) && (decide ((ts.getD (k0).toNat default).2.2 = m))))]) (fun _ => ⟨rfl, trivial⟩) (FL.nil hK_3')
 refine fv (fun _ => OV.assign rfl) ?_
 refine FL.weak (L' := fun _ => [(4, zB (((decide (er0 = 0)) && (decide ((ts.getD (k0).toNat default).1 = 4))) && (decide ((ts.getD (k0).toNat default).2.2 = m))))]) (fun _ => ⟨rfl, trivial⟩) (FL.nil (hT (fun _ => [(4, zB (((decide (er0 = 0)) && (decide ((ts.getD (k0).toNat default).1 = 4))) && (decide ((ts.getD (k0).toNat default).2.2 = m))))]) (fun _ => ?_)))
 refine kg (hK_1' [(4, zB (((decide (er0 = 0)) && (decide ((ts.getD (k0).toNat default).1 = 4))) && (decide ((ts.getD (k0).toNat default).2.2 = m))))] _ ?_)
 refine b8 ?_
 exact hE.ret [0, 1, 2, 3] rfl rfl (.inl ⟨_, _, _, _, _, _, _, _, _, _, h, rfl⟩) (d6.of1 rfl (RV.tmp rfl))
def am4 (ts : List Tok) (ns : List NdV) (k0 : Int) (op0 : Int) (er0 : Int) (ea0 : Int) (dv0 : Value) (mn0 : Int) (B0 : List (Nat × Obj)) (kind : Int) (at0 : Int) (text : List UInt8) (pv : Value) (K : Int → Int → Int → Int → Int → Value → Int → (List Tok) → (List NdV) → (List (Nat × Obj)) → Prop) : Prop :=
 (pv.oneCell' = true) ∧
 (pv.oneCell' = true) ∧
 (((ns.length + 1) + (ns.length + 1) / 4 + 192) * 56 ≤ 281474976710656 ∧ ns.length + 1 ≤ 9223372036854775807) ∧
 (I64 (((ns ++ [((kind, at0, text, pv) : NdV)]).length : Int) - 1)) ∧
 K (((ns ++ [((kind, at0, text, pv) : NdV)]).length : Int) - 1) k0 op0 er0 ea0 dv0 mn0 ts (ns ++ [((kind, at0, text, pv) : NdV)]) B0
theorem avv (pb : Nat) (wa : Value) (wn : Value) (ts : List Tok) (ns : List NdV) (k0 : Int) (op0 : Int) (er0 : Int) (ea0 : Int) (dv0 : Value) (mn0 : Int) (B0 : List (Nat × Obj)) (kind : Int) (at0 : Int) (text : List UInt8) (pv : Value) (K : Int → Int → Int → Int → Int → Value → Int → (List Tok) → (List NdV) → (List (Nat × Obj)) → Prop) (h : am4 ts ns k0 op0 er0 ea0 dv0 mn0 B0 kind at0 text pv K) :
  d7 Tryd.prog 53 [zP pb, zI kind, zI at0, st text, pv] [] [HA.blk pb (.cells [wa, zI k0, zI op0, zI er0, zI ea0, wn, dv0, zI mn0].toArray 62 (0, 0)), HA.row wa 64 3 ts.length (ts.flatMap d8), HA.row wn 69 4 ns.length (ns.flatMap ndC), pool B0] (fun o => (∃ (v : Int) (d_2' : Int) (d_3' : Int) (d_4' : Int) (d_5' : Int) (d_6' : Value) (d_7' : Int) (d : List Tok) (w_2' : Value) (d_1' : List NdV) (D : List (Nat × Obj)), K v d_2' d_3' d_4' d_5' d_6' d_7' d d_1' D ∧ o = .ret (zI v) [HA.blk pb (.cells [wa, zI d_2', zI d_3', zI d_4', zI d_5', w_2', d_6', zI d_7'].toArray 62 (0, 0)), HA.row wa 64 3 d.length (d.flatMap d8), HA.row w_2' 69 4 d_1'.length (d_1'.flatMap ndC), pool D]) ∨ (False)) := by
 unfold am4 at h
 refine c7 (n := 34) (L0 := [(0, zP pb), (1, zI kind), (2, zI at0), (3, st text), (4, pv)]) Tryd.func53 rfl rfl rfl rfl (fun w0 M Q hE => ?_)
 refine a7 (fun _ hK => ?_)
 refine a6 ?_
 refine wA ?_
 refine WL.nil ?_
 refine kg (hK [(0, zP pb), (1, zI kind), (2, zI at0), (3, st text), (4, pv)] _ ?_)
 refine a7 (fun _ hK_1' => ?_)
 refine a6 ?_
 refine wm ?_
 refine wm ?_
 refine wv (OV.nilCheck rfl) ?_
 refine wv (OV.fieldAddr0 rfl w9) ?_
 refine wv (OV.fieldAddr rfl ab6) ?_
 refine wv (OV.load rfl (At.own 0 rfl) rfl agh) ?_
 refine wm ?_
 refine wm ?_
 refine wm ?_
 refine wm ?_
 obtain ⟨o, h⟩ := h
 refine wv (OV.buildC (qs := [(0, [zI kind]), (1, [zI at0]), (2, [st text]), (3, [pv])]) (cs := [zI kind, zI at0, st text, pv]) rfl ⟨rfl, rfl, ⟨rfl, rfl, ⟨rfl, rfl, ⟨rfl, y7 o, trivial⟩⟩⟩⟩ rfl) ?_
 refine WL.make (MV.buildSlice (cs := [zI kind, zI at0, st text, pv]) rfl ahh (by kernel_rfl)) rfl rfl rfl (fun b => ?_)
 obtain ⟨o_1', h⟩ := h
 obtain ⟨o_2', h⟩ := h
 refine WL.append (f := ndC) (ms := [((kind, at0, text, pv) : NdV)]) 3 0 rfl rfl rfl rfl rfl rfl ana (by decide) (av9 o_1') ahh apc rfl o_2' rfl rfl (fun w => ?_)
 refine wv (OV.nilCheck rfl) ?_
 refine wv (OV.fieldAddr0 rfl w9) ?_
 refine wv (OV.fieldAddr rfl ab6) ?_
 refine WL.storeSl (cs' := [wa, zI k0, zI op0, zI er0, zI ea0, w, dv0, zI mn0]) 1 3 rfl rfl rfl rfl aqi (Nat.le_of_ble_eq_true rfl) rfl rfl ?_
 refine WL.nil ?_
 refine kg (hK_1' [(0, zP pb)] _ ?_)
 refine a7 (fun _ hK_2' => ?_)
 refine a6 ?_
 refine wm ?_
 refine wv (OV.nilCheck rfl) ?_
 refine wv (OV.fieldAddr0 rfl w9) ?_
 refine wv (OV.fieldAddr rfl ab6) ?_
 refine wv (OV.load rfl (At.own 1 rfl) rfl agh) ?_
 refine wv (OV.lenRow 3 rfl rfl ahh) ?_
 obtain ⟨o_3', h⟩ := h
 refine wv (OV.sub rfl rfl o_3') ?_
 refine wA ?_
 refine WL.nil ?_
 refine kg (hK_2' [(10, zI (((ns ++ [((kind, at0, text, pv) : NdV)]).length : Int) - 1))] _ ?_)
 refine b8 ?_
 exact hE.ret [1, 2, 3, 4] rfl rfl (.inl ⟨_, _, _, _, _, _, _, _, _, _, _, h, rfl⟩) (d6.of1 rfl (RV.tmp rfl))
theorem aij (w : Bs) : d7 Tryd.prog 19 [st w] [] [] (Ret (.int .i64 (d4 w)) []) := by
 refine d7.one (e := fun v => .int .i64 v) (ass w (fun v => v = d4 w) ?_)
 unfold aid
 by_cases g0 : w = [99, 111, 112, 121]
 ·subst g0; decide
 by_cases g1 : w = [107, 101, 121]
 ·subst g1; decide
 by_cases g2 : w = [105, 110, 115]
 ·subst g2; decide
 by_cases g3 : w = [105, 100]
 ·subst g3; decide
 by_cases g4 : w = [102, 111, 108, 100]
 ·subst g4; decide
 by_cases g5 : w = [100, 101, 108]
 ·subst g5; decide
 by_cases g6 : w = [108, 101, 102, 116]
 ·subst g6; decide
 by_cases g7 : w = [114, 105, 103, 104, 116]
 ·subst g7; decide
 by_cases g8 : w = [100, 101, 102, 97, 117, 108, 116]
 ·subst g8; decide
 by_cases g9 : w = [110, 111, 114, 109]
 ·subst g9; decide
 by_cases g10 : w = [108, 101, 116]
 ·subst g10; decide
 rw [if_neg (fun h => g0 (of_decide_eq_true h).symm), if_neg (fun h => g1 (of_decide_eq_true h).symm), if_neg (fun h => g2 (of_decide_eq_true h).symm), if_neg (fun h => g3 (of_decide_eq_true h).symm), if_neg (fun h => g4 (of_decide_eq_true h).symm), if_neg (fun h => g5 (of_decide_eq_true h).symm), if_neg (fun h => g6 (of_decide_eq_true h).symm), if_neg (fun h => g7 (of_decide_eq_true h).symm), if_neg (fun h => g8 (of_decide_eq_true h).symm), if_neg (fun h => g9 (of_decide_eq_true h)), if_neg (fun h => g10 (of_decide_eq_true h))]
 unfold d4
 rw [if_neg (by rintro (h | h | h | h | h); exact g0 h; exact g1 h; exact g2 h; exact g3 h; exact g4 h), if_neg (by rintro (h | h | h | h); exact g5 h; exact g6 h; exact g7 h; exact g8 h), if_neg g9, if_neg g10]
theorem aj3 (w : Bs) : d7 Tryd.prog 52 [st w] [] [] (Ret (.int .i64 (c9 w)) []) := by
 refine d7.one (e := fun v => .int .i64 v) (avk w (fun v => v = c9 w) ?_)
 unfold aj9 c9
 by_cases g0 : w = [124]
 ·rw [if_pos (decide_eq_true g0), if_pos g0]
 rw [if_neg (by rw [decide_eq_true_eq]; exact g0), if_neg g0]
 refine ⟨fun b => b = decide (w = [38] ∨ w = [45]), fun b hb => ?_, ?_⟩
 ·subst hb
  by_cases g1 : w = [38] ∨ w = [45]
  ·rw [if_pos (decide_eq_true g1), if_pos g1]
  rw [if_neg (by rw [decide_eq_true_eq]; exact g1), if_neg g1]
  by_cases g2 : w = [62, 62]
  ·rw [if_pos (decide_eq_true g2), if_pos g2]
  rw [if_neg (by rw [decide_eq_true_eq]; exact g2), if_neg g2]
  by_cases g3 : w = [126]
  ·rw [if_pos (decide_eq_true g3), if_pos g3]
  rw [if_neg (by rw [decide_eq_true_eq]; exact g3), if_neg g3]
  by_cases g4 : w = [46]
  ·rw [if_pos (decide_eq_true g4), if_pos g4]
  rw [if_neg (by rw [decide_eq_true_eq]; exact g4), if_neg g4]
 ·by_cases g1 : w = [38]
  ·rw [if_pos (decide_eq_true g1), decide_eq_true g1]; exact (decide_eq_true (.inl g1)).symm
  ·rw [if_neg (by rw [decide_eq_true_eq]; exact g1)]
   simp only [g1, false_or]
section
variable (pb : Nat) (wa : Value) (ts : List Tok) (wn : Value) (ns : List NdV) (k o er ea : Int) (dv : Value) (mn : Int) (B : List (Nat × Obj))
theorem abv (e : Int) (h : 0 ≤ k ∧ k < (ts.length : Int)) : d7 Tryd.prog 20 [.pointer (some ⟨pb, 0, none⟩), .int .i64 e] [] (rfH pb wa ts wn ns k o er ea dv mn B)
  (Ret (.int .i64 0) (rfH pb wa ts wn ns k o (aca er e) (acd ts k er ea) dv mn B)) := by
 refine (auc pb wa wn ts ns k o er ea dv mn B e (fun r k2 o2 er2 ea2 dv2 mn2 ts2 ns2 B2 => r = 0 ∧ k2 = k ∧ o2 = o ∧ er2 = aca er e ∧ ea2 = acd ts k er ea ∧ dv2 = dv ∧ mn2 = mn ∧ ts2 = ts ∧ ns2 = ns ∧ B2 = B) ?_).weak ?_
 ·unfold aki
  refine ⟨fun a b => a = aca er e ∧ b = acd ts k er ea, fun a b h => ⟨rfl, rfl, rfl, h.1, h.2, rfl, rfl, rfl, rfl, rfl⟩, ?_⟩
  unfold aca acd
  by_cases h0 : er = 0
  ·rw [if_pos (decide_eq_true h0), if_pos h0, if_pos h0]; exact ⟨h, rfl, rfl⟩
  ·rw [if_neg (by rw [decide_eq_true_eq]; exact h0), if_neg h0, if_neg h0]; exact ⟨rfl, rfl⟩
 ·rintro x (⟨v, k2, o2, er2, ea2, dv2, mn2, ts2, ns2, B2, ⟨rfl, rfl, rfl, rfl, rfl, rfl, rfl, rfl, rfl, rfl⟩, rfl⟩ | h)
  ·rfl
  ·exact h.elim
theorem ab1 (m : Bs) (h : 0 ≤ k ∧ k < (ts.length : Int)) : d7 Tryd.prog 50 [.pointer (some ⟨pb, 0, none⟩), st m] [] (rfH pb wa ts wn ns k o er ea dv mn B)
  (Ret (.bool (o6 ts k er m)) (rfH pb wa ts wn ns k o er ea dv mn B)) := by
 refine (avp pb wa wn ts ns k o er ea dv mn B m (fun r k2 o2 er2 ea2 dv2 mn2 ts2 ns2 B2 => r = o6 ts k er m ∧ k2 = k ∧ o2 = o ∧ er2 = er ∧ ea2 = ea ∧ dv2 = dv ∧ mn2 = mn ∧ ts2 = ts ∧ ns2 = ns ∧ B2 = B) ?_).weak ?_
 ·unfold ajn
  refine ⟨fun _ => h, fun _ => h, ?_, rfl, rfl, rfl, rfl, rfl, rfl, rfl, rfl, rfl⟩
  unfold o6 isM
  rw [Bool.and_assoc]; rfl
 ·rintro x (⟨v, k2, o2, er2, ea2, dv2, mn2, ts2, ns2, B2, ⟨rfl, rfl, rfl, rfl, rfl, rfl, rfl, rfl, rfl, rfl⟩, rfl⟩ | h)
  ·rfl
  ·exact h.elim
theorem aby (kd a : Int) (s : Bs) (pv : Value) (hn : ns.length ≤ 20000) (hp : pv.oneCell' = true) : d7 Tryd.prog 53 [.pointer (some ⟨pb, 0, none⟩), .int .i64 kd, .int .i64 a, st s, pv] [] (rfH pb wa ts wn ns k o er ea dv mn B)
  (fun out => ∃ w2, out = .ret (.int .i64 (ns.length : Int)) (rfH pb wa ts w2 (ns ++ [((kd, a, s, pv) : NdV)]) k o er ea dv mn B)) := by
 refine (avv pb wa wn ts ns k o er ea dv mn B kd a s pv (fun r k2 o2 er2 ea2 dv2 mn2 ts2 ns2 B2 => r = (ns.length : Int) ∧ k2 = k ∧ o2 = o ∧ er2 = er ∧ ea2 = ea ∧ dv2 = dv ∧ mn2 = mn ∧ ts2 = ts ∧ ns2 = ns ++ [((kd, a, s, pv) : NdV)] ∧ B2 = B) ?_).weak ?_
 ·unfold am4
  have hl : ((ns ++ [((kd, a, s, pv) : NdV)]).length : Int) - 1 = (ns.length : Int) := by rw [List.length_append, List.length_singleton]; omega
  rw [hl]
  exact ⟨hp, hp, ⟨by omega, by omega⟩, by unfold I64; omega, rfl, rfl, rfl, rfl, rfl, rfl, rfl, rfl, rfl, rfl⟩
 ·rintro x (⟨v, k2, o2, er2, ea2, dv2, mn2, ts2, w2, ns2, B2, ⟨rfl, rfl, rfl, rfl, rfl, rfl, rfl, rfl, rfl, rfl⟩, rfl⟩ | h)
  ·exact ⟨w2, rfl⟩
  ·exact h.elim
end
def ajc (ts : List Tok) (ns : List NdV) (k0 : Int) (op0 : Int) (er0 : Int) (ea0 : Int) (dv0 : Value) (mn0 : Int) (B0 : List (Nat × Obj)) (m : List UInt8) (K : Int → Int → Int → Int → Value → Int → (List Tok) → (List NdV) → (List (Nat × Obj)) → Prop) : Prop :=
 (0 ≤ k0 ∧ k0 < (ts.length : Int)) ∧
 (if (!(o6 ts k0 er0 m)) = true then
  (0 ≤ k0 ∧ k0 < (ts.length : Int)) ∧
  K k0 op0 (aca er0 (60 : Int)) (acd ts k0 er0 ea0) dv0 mn0 ts ns B0
 else
  (I64 (k0 + 1)) ∧
  ∃ (J0 : Int → Prop),
   (∀ (s_2 : Int), J0 s_2 →
    (if ((decide (m = ([41] : List UInt8))) || (decide (m = ([125] : List UInt8)))) = true then
     (I64 (s_2 - 1)) ∧
     K (k0 + 1) (s_2 - 1) er0 ea0 dv0 mn0 ts ns B0
    else
     K (k0 + 1) s_2 er0 ea0 dv0 mn0 ts ns B0)) ∧
   (if ((decide (m = ([40] : List UInt8))) || (decide (m = ([123] : List UInt8)))) = true then
    (if (decide (op0 = 64)) = true then
     (I64 ((k0 + 1) - 1)) ∧
     (0 ≤ ((k0 + 1) - 1) ∧ ((k0 + 1) - 1) < (ts.length : Int)) ∧
     K ((k0 + 1) - 1) op0 (aca er0 (23 : Int)) (acd ts ((k0 + 1) - 1) er0 ea0) dv0 mn0 ts ns B0
    else
     (I64 (op0 + 1)) ∧
     J0 (op0 + 1))
   else
    J0 op0))
theorem aum (pb : Nat) (wa : Value) (wn : Value) (ts : List Tok) (ns : List NdV) (k0 : Int) (op0 : Int) (er0 : Int) (ea0 : Int) (dv0 : Value) (mn0 : Int) (B0 : List (Nat × Obj)) (m : List UInt8) (K : Int → Int → Int → Int → Value → Int → (List Tok) → (List NdV) → (List (Nat × Obj)) → Prop) (h : ajc ts ns k0 op0 er0 ea0 dv0 mn0 B0 m K) :
  d7 Tryd.prog 21 [zP pb, st m] [] [HA.blk pb (.cells [wa, zI k0, zI op0, zI er0, zI ea0, wn, dv0, zI mn0].toArray 62 (0, 0)), HA.row wa 64 3 ts.length (ts.flatMap d8), HA.row wn 69 4 ns.length (ns.flatMap ndC), pool B0] (fun o => (∃ (d_2' : Int) (d_3' : Int) (d_4' : Int) (d_5' : Int) (d_6' : Value) (d_7' : Int) (d : List Tok) (d_1' : List NdV) (D : List (Nat × Obj)), K d_2' d_3' d_4' d_5' d_6' d_7' d d_1' D ∧ o = .ret (Value.tuple #[]) [HA.blk pb (.cells [wa, zI d_2', zI d_3', zI d_4', zI d_5', wn, d_6', zI d_7'].toArray 62 (0, 0)), HA.row wa 64 3 d.length (d.flatMap d8), HA.row wn 69 4 d_1'.length (d_1'.flatMap ndC), pool D]) ∨ (False)) := by
 unfold ajc at h
 refine c7 (n := 57) (L0 := [(0, zP pb), (1, st m)]) Tryd.func21 rfl rfl rfl rfl (fun w0 M Q hE => ?_)
 refine a7 (fun _ hK => ?_)
 refine a7 (fun _ hK_1' => ?_)
 refine a6 ?_
 refine wm ?_
 refine wm ?_
 obtain ⟨o, h⟩ := h
 refine WL.call aco rfl (ab1 pb wa ts wn ns k0 op0 er0 ea0 dv0 mn0 B0 m o) rfl trivial rfl rfl ?_
 refine wv (OV.not rfl) ?_
 refine WL.nil ?_
 refine kg (hK_1' [(0, zP pb), (1, st m), (7, zB (!(o6 ts k0 er0 m)))] _ ?_)
 refine a8 (b := !(o6 ts k0 er0 m)) rfl (fun hb => ?_) (fun hb => ?_)
 ·replace h := e6 h hb
  refine a7 (fun _ hK_2' => ?_)
  refine a6 ?_
  refine wm ?_
  obtain ⟨o_1', h⟩ := h
  refine WL.call acp rfl (abv pb wa ts wn ns k0 op0 er0 ea0 dv0 mn0 B0 (60 : Int) o_1') rfl trivial rfl rfl ?_
  refine WL.nil ?_
  refine KX.go (hK_2' [] _ ?_) trivial
  refine b8 ?_
  exact hE.ret [0, 1, 2, 3] rfl rfl (.inl ⟨_, _, _, _, _, _, _, _, _, h, rfl⟩) (d6.none rfl)
 ·replace h := d9 h hb
  refine b5 ?_
  refine kg (hK [(0, zP pb), (1, st m)] _ ?_)
  refine a7 (fun _ hK_3' => ?_)
  refine a6 ?_
  refine wm ?_
  refine wv (OV.nilCheck rfl) ?_
  refine wv (OV.fieldAddr0 rfl e7) ?_
  refine wv (OV.load rfl (At.own 0 rfl) rfl b4) ?_
  obtain ⟨o_2', h⟩ := h
  refine wv (OV.add rfl rfl o_2') ?_
  refine wv (OV.nilCheck rfl) ?_
  refine wv (OV.fieldAddr0 rfl e7) ?_
  refine WL.store (vs := [zI (k0 + 1)]) (cs' := [wa, zI (k0 + 1), zI op0, zI er0, zI ea0, wn, dv0, zI mn0]) 0 rfl rfl rfl rfl f9 (Nat.le_of_ble_eq_true rfl) rfl rfl rfl ?_
  refine WL.nil ?_
  refine kg (hK_3' [(0, zP pb), (1, st m)] _ ?_)
  obtain ⟨J0, hJ, h⟩ := h
  refine l4 (X := Int) (fun σ => J0 σ) (fun σ => [(0, zP pb), (1, st m)]) (fun σ => [HA.blk pb (.cells [wa, zI (k0 + 1), zI σ, zI er0, zI ea0, wn, dv0, zI mn0].toArray 62 (0, 0)), HA.row wa 64 3 ts.length (ts.flatMap d8), HA.row wn 69 4 ns.length (ns.flatMap ndC), pool B0]) ?_ (fun K0_10' hK_10' => ?_)
  ·rintro s_2 hj
   replace h := hJ s_2 hj
   show WC _ _ _ _ [(0, zP pb), (1, st m)] [HA.blk pb (.cells [wa, zI (k0 + 1), zI s_2, zI er0, zI ea0, wn, dv0, zI mn0].toArray 62 (0, 0)), HA.row wa 64 3 ts.length (ts.flatMap d8), HA.row wn 69 4 ns.length (ns.flatMap ndC), pool B0]
   refine a7 (fun _ hK_11' => ?_)
   refine a6 ?_
   refine wm ?_
   refine wv (OV.eqlS rfl rfl) ?_
   refine wm ?_
   refine WL.cut 3 [(0, zP pb), (49, zB ((decide (m = ([41] : List UInt8))) || (decide (m = ([125] : List UInt8)))))] ?_ (fun K0_12' hK_12' => ?_)
   rotate_left
   ·refine WL.split (decide (m = ([41] : List UInt8))) (fun hb => ?_) (fun hb => ?_)
    ·refine WL.set 46 rfl (congrArg zB hb) ?_
     refine wk ?_
     refine wk ?_
     refine wv (OV.pickT rfl rfl) ?_
     refine WL.set 49 rfl (oT (v := decide (m = ([125] : List UInt8))) hb) ?_
     exact WL.end_ (kg hK_12')
    ·refine WL.set 46 rfl (congrArg zB hb) ?_
     refine wm ?_
     refine wv (OV.eqlS rfl rfl) ?_
     refine wv (OV.pickF rfl rfl) ?_
     refine WL.set 49 rfl (oF (v := decide (m = ([125] : List UInt8))) hb) ?_
     exact WL.end_ (kg hK_12')
   refine WL.nil ?_
   refine kg (hK_11' [(0, zP pb), (49, zB ((decide (m = ([41] : List UInt8))) || (decide (m = ([125] : List UInt8)))))] _ ?_)
   refine a8 (b := (decide (m = ([41] : List UInt8))) || (decide (m = ([125] : List UInt8)))) rfl (fun hb => ?_) (fun hb => ?_)
   ·replace h := e6 h hb
    refine a6 ?_
    refine wm ?_
    refine wv (OV.nilCheck rfl) ?_
    refine wv (OV.fieldAddr0 rfl aa9) ?_
    refine wv (OV.load rfl (At.own 0 rfl) rfl b4) ?_
    obtain ⟨o_8', h⟩ := h
    refine wv (OV.sub rfl rfl o_8') ?_
    refine wv (OV.nilCheck rfl) ?_
    refine wv (OV.fieldAddr0 rfl aa9) ?_
    refine WL.store (vs := [zI (s_2 - 1)]) (cs' := [wa, zI (k0 + 1), zI (s_2 - 1), zI er0, zI ea0, wn, dv0, zI mn0]) 0 rfl rfl rfl rfl f9 (Nat.le_of_ble_eq_true rfl) rfl rfl rfl ?_
    refine WL.nil ?_
    exact hE.norm [0, 1, 2, 3] rfl rfl (.inl ⟨_, _, _, _, _, _, _, _, _, h, rfl⟩) (d6.none rfl)
   ·replace h := d9 h hb
    refine b5 ?_
    exact hE.norm [0, 1, 2, 3] rfl rfl (.inl ⟨_, _, _, _, _, _, _, _, _, h, rfl⟩) (d6.none rfl)
  ·skip
   refine a7 (fun _ hK_13' => ?_)
   refine a6 ?_
   refine wm ?_
   refine wv (OV.eqlS rfl rfl) ?_
   refine wm ?_
   refine WL.cut 3 [(0, zP pb), (1, st m), (22, zB ((decide (m = ([40] : List UInt8))) || (decide (m = ([123] : List UInt8)))))] ?_ (fun K0_14' hK_14' => ?_)
   rotate_left
   ·refine WL.split (decide (m = ([40] : List UInt8))) (fun hb => ?_) (fun hb => ?_)
    ·refine WL.set 19 rfl (congrArg zB hb) ?_
     refine wk ?_
     refine wk ?_
     refine wv (OV.pickT rfl rfl) ?_
     refine WL.set 22 rfl (oT (v := decide (m = ([123] : List UInt8))) hb) ?_
     exact WL.end_ (kg hK_14')
    ·refine WL.set 19 rfl (congrArg zB hb) ?_
     refine wm ?_
     refine wv (OV.eqlS rfl rfl) ?_
     refine wv (OV.pickF rfl rfl) ?_
     refine WL.set 22 rfl (oF (v := decide (m = ([123] : List UInt8))) hb) ?_
     exact WL.end_ (kg hK_14')
   refine WL.nil ?_
   refine kg (hK_13' [(0, zP pb), (1, st m), (22, zB ((decide (m = ([40] : List UInt8))) || (decide (m = ([123] : List UInt8)))))] _ ?_)
   refine a8 (b := (decide (m = ([40] : List UInt8))) || (decide (m = ([123] : List UInt8)))) rfl (fun hb => ?_) (fun hb => ?_)
   ·replace h := e6 h hb
    refine a7 (fun _ hK_15' => ?_)
    refine a7 (fun _ hK_16' => ?_)
    refine a6 ?_
    refine wm ?_
    refine wv (OV.nilCheck rfl) ?_
    refine wv (OV.fieldAddr0 rfl aa9) ?_
    refine wv (OV.load rfl (At.own 0 rfl) rfl b4) ?_
    refine wv (OV.eql rfl rfl) ?_
    refine WL.nil ?_
    refine kg (hK_16' [(0, zP pb), (1, st m), (27, zB (decide (op0 = 64)))] _ ?_)
    refine a8 (b := decide (op0 = 64)) rfl (fun hb => ?_) (fun hb => ?_)
    ·replace h := e6 h hb
     refine a7 (fun _ hK_17' => ?_)
     refine a6 ?_
     refine wm ?_
     refine wv (OV.nilCheck rfl) ?_
     refine wv (OV.fieldAddr0 rfl e7) ?_
     refine wv (OV.load rfl (At.own 0 rfl) rfl b4) ?_
     obtain ⟨o_10', h⟩ := h
     refine wv (OV.sub rfl rfl o_10') ?_
     refine wv (OV.nilCheck rfl) ?_
     refine wv (OV.fieldAddr0 rfl e7) ?_
     refine WL.store (vs := [zI ((k0 + 1) - 1)]) (cs' := [wa, zI ((k0 + 1) - 1), zI op0, zI er0, zI ea0, wn, dv0, zI mn0]) 0 rfl rfl rfl rfl f9 (Nat.le_of_ble_eq_true rfl) rfl rfl rfl ?_
     refine WL.nil ?_
     refine kg (hK_17' [(0, zP pb)] _ ?_)
     refine a7 (fun _ hK_18' => ?_)
     refine a6 ?_
     refine wm ?_
     obtain ⟨o_11', h⟩ := h
     refine WL.call acp rfl (abv pb wa ts wn ns ((k0 + 1) - 1) op0 er0 ea0 dv0 mn0 B0 (23 : Int) o_11') rfl trivial rfl rfl ?_
     refine WL.nil ?_
     refine KX.go (hK_18' [] _ ?_) trivial
     refine b8 ?_
     exact hE.ret [0, 1, 2, 3] rfl rfl (.inl ⟨_, _, _, _, _, _, _, _, _, h, rfl⟩) (d6.none rfl)
    ·replace h := d9 h hb
     refine b5 ?_
     refine kg (hK_15' [(0, zP pb), (1, st m)] _ ?_)
     refine a6 ?_
     refine wm ?_
     refine wv (OV.nilCheck rfl) ?_
     refine wv (OV.fieldAddr0 rfl aa9) ?_
     refine wv (OV.load rfl (At.own 0 rfl) rfl b4) ?_
     obtain ⟨o_12', h⟩ := h
     refine wv (OV.add rfl rfl o_12') ?_
     refine wv (OV.nilCheck rfl) ?_
     refine wv (OV.fieldAddr0 rfl aa9) ?_
     refine WL.store (vs := [zI (op0 + 1)]) (cs' := [wa, zI (k0 + 1), zI (op0 + 1), zI er0, zI ea0, wn, dv0, zI mn0]) 0 rfl rfl rfl rfl f9 (Nat.le_of_ble_eq_true rfl) rfl rfl rfl ?_
     refine WL.nil ?_
     exact kh (hK_10' (op0 + 1) h) [0, 1, 2, 3]
   ·replace h := d9 h hb
    refine b5 ?_
    exact kh (hK_10' op0 h) [0, 1, 2, 3]
theorem aac (pb : Nat) (wa : Value) (ts : List Tok) (wn : Value) (ns : List NdV) (k o er ea : Int) (dv : Value) (mn : Int) (B : List (Nat × Obj)) (m : Bs) (h : (0 ≤ k ∧ k < (ts.length : Int)) ∧ (0 ≤ o ∧ o ≤ 64) ∧ ts.length ≤ 10000) :
  d7 Tryd.prog 21 [.pointer (some ⟨pb, 0, none⟩), st m] [] (rfH pb wa ts wn ns k o er ea dv mn B)
  (fun out => ∃ k2 o2 er2 ea2, aa5 ts k o er ea m = (k2, o2, er2, ea2) ∧ out = .ret (.tuple #[]) (rfH pb wa ts wn ns k2 o2 er2 ea2 dv mn B)) := by
 refine (aum pb wa wn ts ns k o er ea dv mn B m (fun k2 o2 er2 ea2 dv2 mn2 ts2 ns2 B2 => aa5 ts k o er ea m = (k2, o2, er2, ea2) ∧ dv2 = dv ∧ mn2 = mn ∧ ts2 = ts ∧ ns2 = ns ∧ B2 = B) ?_).weak ?_
 ·unfold ajc aa5
  obtain ⟨hk, ho, hl⟩ := h
  refine ⟨hk, ?_⟩
  by_cases hm : o6 ts k er m = true
  ·rw [if_neg (by rw [hm]; decide), if_pos hm]
   refine ⟨by unfold I64; omega, fun o2 => (m = [40] ∨ m = [123] → ¬ o = 64 ∧ o2 = o + 1) ∧ (¬ (m = [40] ∨ m = [123]) → o2 = o), fun o2 hj => ?_, ?_⟩
   ·by_cases g1 : m = [40] ∨ m = [123]
    ·obtain ⟨j1, rfl⟩ := hj.1 g1
     have g2 : ¬ (m = [41] ∨ m = [125]) := by rcases g1 with rfl | rfl <;> decide
     rw [if_neg (by rw [Bool.or_eq_true, decide_eq_true_eq, decide_eq_true_eq]; exact g2), if_pos g1, if_neg j1]
     exact ⟨rfl, rfl, rfl, rfl, rfl, rfl⟩
    ·obtain rfl := hj.2 g1
     rw [if_neg g1]
     by_cases g2 : m = [41] ∨ m = [125]
     ·rw [if_pos (by rw [Bool.or_eq_true, decide_eq_true_eq, decide_eq_true_eq]; exact g2), if_pos g2]
      exact ⟨by unfold I64; omega, rfl, rfl, rfl, rfl, rfl, rfl⟩
     ·rw [if_neg (by rw [Bool.or_eq_true, decide_eq_true_eq, decide_eq_true_eq]; exact g2), if_neg g2]
      exact ⟨rfl, rfl, rfl, rfl, rfl, rfl⟩
   ·by_cases g1 : m = [40] ∨ m = [123]
    ·rw [if_pos (by rw [Bool.or_eq_true, decide_eq_true_eq, decide_eq_true_eq]; exact g1), if_pos g1]
     by_cases g3 : o = 64
     ·have e1 : k + 1 - 1 = k := by omega
      rw [if_pos (decide_eq_true g3), if_pos g3, e1]
      exact ⟨by unfold I64; omega, hk, rfl, rfl, rfl, rfl, rfl, rfl⟩
     ·rw [if_neg (by rw [decide_eq_true_eq]; exact g3)]
      exact ⟨by unfold I64; omega, fun _ => ⟨g3, rfl⟩, fun g => absurd g1 g⟩
    ·rw [if_neg (by rw [Bool.or_eq_true, decide_eq_true_eq, decide_eq_true_eq]; exact g1)]
     exact ⟨fun g => absurd g g1, fun _ => rfl⟩
  ·rw [if_pos (by rw [Bool.eq_false_iff.2 hm]; rfl), if_neg hm]
   exact ⟨hk, rfl, rfl, rfl, rfl, rfl, rfl⟩
 ·rintro x (⟨k2, o2, er2, ea2, dv2, mn2, ts2, ns2, B2, ⟨h1, rfl, rfl, rfl, rfl, rfl⟩, rfl⟩ | h)
  ·exact ⟨k2, o2, er2, ea2, h1, rfl⟩
  ·exact h.elim
end Go.Proofs.YtifajndacnfcbaaDoor
