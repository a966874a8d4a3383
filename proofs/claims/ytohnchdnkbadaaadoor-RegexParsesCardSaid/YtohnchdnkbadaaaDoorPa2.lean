/-
  Merged: Gwk, Gwv, Gwy, Gwz, Show, RefA, ClassD, RdV, RdM, RdV2.
-/
import Derived.Test.YtohnchdnkbadaaaDoorChecked
import Derived.Test.YtohnchdnkbadaaaDoorPa1
namespace Go.Proofs.YtohnchdnkbadaaaDoor
open Go Go.RowKit
variable {P : Program} {ops : Array Oper} {Q : Exit → Act → World → Prop} {C : Cx} {L : Sl} {H : List HA} {rest : List Oper} {o : Oper} {md : Region.Mode} {S : World → Prop} {q : Nat}
theorem EN.fn {f : FuncId} {xs : List Operand} {ats : Array TypeId} {d : Option Tmp} {ty : TypeId} {p : String} {e : Array Edge} {g : Option (Nat × Bool)} {vs : List Value} (he : o6 P f = true) (hx : evs L xs = some vs) :
  EN P C L H ⟨d, .call ⟨.value (.func f), xs.toArray, ats⟩, ty, p, e, g⟩ f vs := fun _ _ hf _ => adn he hf hx
def afm (P : Program) (md : Region.Mode) (ops : Array Oper) (Q : Exit → Act → World → Prop) (S : World → Prop) (q : Nat) : Nat → Array Bool → Act → World → Prop
 | 0, listed, a, w => Region.ready md ops listed = [] ∧ Q .normal a w
 | fuel + 1, listed, a, w =>
  (Region.ready md ops listed = [] → Q .normal a w) ∧
  ∀ i ∈ Region.ready md ops listed, wpOp P ops Q i (fun a' w' => (i ≠ q → S w') ∧ afm P md ops Q S q fuel (listed.setIfInBounds i true) a' w') a w
theorem akk : ∀ (fuel : Nat) (listed : Array Bool) (a : Act) (w : World), afm P md ops Q S q fuel listed a w → wpAny P md ops Q fuel listed a w
 | 0, _, _, _, h => h
 | fuel + 1, _, _, _, h => ⟨h.1, fun i hi => wpOp_mono (fun a' w' h' => akk fuel _ a' w' h'.2) (h.2 i hi)⟩
theorem aor {i : Nat} {oi : Oper} {v : Value} (hi : ops[i]? = some oi) (hsel : ∀ (j : Nat) (o : Oper) cs b, ops[j]? = some o → o.op ≠ .select cs b)
  (hQ : ∀ c a w, Q (.panic c) (a.put oi.dst v) w → Q (.panic c) a w) (hlast : ∀ oq, ops[q]? = some oq → ∃ e ∈ oq.after, Region.binds md e = true ∧ e.on = i) :
  ∀ (fuel : Nat) (listed : Array Bool) (a : Act) (w : World),
   (∀ j oj, ops[j]? = some oj → j ≠ i → listed.getD j true = false → (∀ e ∈ oj.after, Region.binds md e = true → e.on ≠ i) → oi.apart ops oj = true) →
   i ∈ Region.ready md ops listed → YieldsIf P ops S oi v a → S w →
   afm P md ops Q S q fuel (listed.setIfInBounds i true) (a.put oi.dst v) w → afm P md ops Q S q (fuel + 1) listed a w := by
 intro fuel
 induction fuel with
 | zero =>
  intro listed a w _ hr hy hS H
  refine ⟨fun h => (by rw [h] at hr; cases hr), fun j hj => ?_⟩
  by_cases hji : j = i
  ·subst hji; exact hy.wpOp hi hS ⟨fun _ => hS, H⟩
  ·have := ready_mono hj hji
   rw [H.1] at this
   cases this
 | succ fuel ih =>
  intro listed a w hfree hr hy hS H
  refine ⟨fun h => (by rw [h] at hr; cases hr), fun j hj => ?_⟩
  by_cases hji : j = i
  ·subst hji; exact hy.wpOp hi hS ⟨fun _ => hS, H⟩
  ·have h1 := H.2 j (ready_mono hj hji)
   obtain ⟨hjun, oj, hoj, hall⟩ := mem_ready.1 hj
   have hnot : ∀ e ∈ oj.after, Region.binds md e = true → e.on ≠ i := fun e he hb heq => by
    have h1 := hall e he hb
    have h0 := (mem_ready.1 hr).1
    rw [heq] at h1
    rcases Nat.lt_or_ge i listed.size with h' | h'
    ·simp [h'] at h0 h1; rw [h0] at h1; cases h1
    ·simp [Array.getElem?_eq_none h'] at h1
   have hjq : j ≠ q := fun e => by
    subst e
    obtain ⟨e, he, hb, hon⟩ := hlast oj hoj
    exact hnot e he hb hon
   have h2 := wpOp_putIf hoj (hfree j oj hoj hji hjun hnot) (fun cs b => hsel i oi cs b hi) (fun cs b => hsel j oj cs b hoj) hQ hy h1
   have hfree' : ∀ k ok, ops[k]? = some ok → k ≠ i → (listed.setIfInBounds j true).getD k true = false →
     (∀ e ∈ ok.after, Region.binds md e = true → e.on ≠ i) → oi.apart ops ok = true := fun k ok hk hki hun hno => by
    refine hfree k ok hk hki ?_ hno
    by_cases hjk : j = k
    ·subst hjk; exact hjun
    ·rw [getD_set_ne true hjk] at hun; exact hun
   refine wpOp_mono (fun a' w' h3 => ⟨h3.2.1, ih (listed.setIfInBounds j true) a' w' hfree' (ready_mono hr (Ne.symm hji)) h3.1 (h3.2.1 hjq) ?_⟩) h2
   rw [Array.setIfInBounds_comm _ _ hji]
   exact h3.2.2
theorem ape {i : Nat} {oi : Oper} {v : Value} {fuel : Nat} {listed : Array Bool} {a : Act} {w : World} (hi : ops[i]? = some oi)
  (hs : Region.noSelect ops = true) (hf : Region.free md ops listed i = true) (hr : (Region.ready md ops listed).contains i = true)
  (hQ : ∀ c a w, Q (.panic c) (a.put oi.dst v) w → Q (.panic c) a w) (hlast : ∀ oq, ops[q]? = some oq → ∃ e ∈ oq.after, Region.binds md e = true ∧ e.on = i) (hy : YieldsIf P ops S oi v a) (hS : S w)
  (h : afm P md ops Q S q fuel (listed.setIfInBounds i true) (a.put oi.dst v) w) : afm P md ops Q S q (fuel + 1) listed a w :=
 aor hi (Region.noSelect_spec hs) hQ hlast fuel listed a w (Region.free_spec hi hf) (by simpa using hr) hy hS h
def aoq (P : Program) (ops : Array Oper) (Q : Exit → Act → World → Prop) (S : World → Prop) : List Oper → Act → World → Prop
 | [], a, w => Q .normal a w
 | o :: rest, a, w => Region.wanted o (yielded ops a.tmps) = true ∧ o.wp P a w (fun a' w' => (rest ≠ [] → S w') ∧ aoq P ops Q S rest a' w') Q
theorem ago : ∀ (l : List Oper) (k : Nat) (listed : Array Bool) (a : Act) (w : World), k + l.length = q + 1 → (∀ j, l[j]? = ops[k + j]?) →
  Region.seqB md ops l.length k listed = true → aoq P ops Q S l a w → afm P md ops Q S q l.length listed a w
 | [], _, _, _, _, _, _, hB, h => ⟨by simpa [Region.seqB] using hB, h⟩
 | o :: l, k, listed, a, w, hq, hl, hB, h => by
  have h0 : ops[k]? = some o := by simpa using (hl 0).symm
  simp only [List.length_cons, Region.seqB, Bool.and_eq_true, decide_eq_true_eq] at hB
  refine ⟨fun h1 => (by rw [hB.1] at h1; cases h1), fun i hi => ?_⟩
  rw [hB.1] at hi
  obtain rfl : i = k := by simpa using hi
  unfold wpOp
  simp only [h0, h.1, if_true]
  refine .inl (Oper.wp_mono (fun a' w' h' => ⟨fun hne => h'.1 (fun e => hne (by subst e; simp at hq; omega)), ?_⟩) h.2)
  exact ago l (i + 1) _ a' w' (by rw [← hq, List.length_cons]; omega) (fun j => by have := hl (j + 1); simpa [Nat.add_assoc, Nat.add_comm 1 j] using this) hB.2 h'.2
def WLX (P : Program) (ops : Array Oper) (Q : Exit → Act → World → Prop) (C : Cx) (HK : List HA) (L : Sl) (H : List HA) (l : List Oper) : Prop := ∀ a w, Fr C L a → Hp C H w → aoq P ops Q (Hp C HK) l a w
theorem ati {g : Nat} {tail : List Oper} {HK : List HA} (hsel : Region.noSelect ops = true) (hq : awi Q) (hg : tail.length = g) : ∀ (l : List Oper) (k : Nat) (listed : Array Bool) (L : Sl) (a : Act) (w : World), k + l.length + g = q + 1 → (∀ j, j < l.length → l[j]? = ops[k + j]?) → (∀ j, tail[j]? = ops[k + l.length + j]?) →
  (∀ i, i < k + l.length → ∀ oq, ops[q]? = some oq → ∃ e ∈ oq.after, Region.binds .any e = true ∧ e.on = i) →
  Region.lexHead .any ops g l.length k listed = true → Fr C L a → Hp C H w → Hp C HK w → TW P ops C HK (fun L' => WLX P ops Q C HK L' H tail) L l → afm P .any ops Q (Hp C HK) q (l.length + g) listed a w
 | [], k, listed, L, a, w, hqq, _, ht, _, hB, hf, hp, _, h => by
  have := ago (md := .any) (Q := Q) (S := Hp C HK) (q := q) tail k listed a w (by rw [hg]; simpa using hqq) (fun j => by simpa using ht j) (by rw [hg]; simpa [Region.lexHead] using hB) (h a w hf hp)
  rw [hg] at this
  simpa using this
 | o :: l, k, listed, L, a, w, hqq, hl, ht, hlast, hB, hf, hp, hpk, ⟨v, d, hv, hd, hn, h⟩ => by
  have h0 : ops[k]? = some o := by simpa using (hl 0 (by simp)).symm
  simp only [List.length_cons, Region.lexHead, Bool.and_eq_true] at hB
  obtain ⟨⟨hrd, hfr⟩, hB'⟩ := hB
  have hy : YieldsIf P ops (Hp C HK) o v a := by
   rcases hv with ⟨hw, hv⟩ | ⟨hw, rfl⟩
   ·exact .inl ⟨m3 hf hw, fun w' hw' => hv a w' hf hw'⟩
   ·exact .inr ⟨m3 hf hw, rfl⟩
  have ih := ati hsel hq hg l (k + 1) (listed.setIfInBounds k true) ((d, v) :: L) (a.put (some d) v) w (by rw [← hqq, List.length_cons]; omega) (fun j hj => by have := hl (j + 1) (by simp; omega); simpa [Nat.add_assoc, Nat.add_comm 1 j] using this)
   (fun j => by have := ht j; rw [List.length_cons] at this; rw [this]; congr 1; omega) (fun i hi => hlast i (by rw [List.length_cons]; omega)) hB' (hf.put hn v) hp hpk h
  rw [show (o :: l).length + g = (l.length + g) + 1 by simp; omega]
  refine ape h0 hsel hfr hrd (fun c a w h => hq c a _ v w h) (hlast k (by simp)) hy hpk ?_
  rw [hd]; exact ih
def SP (Q : Exit → Act → World → Prop) : Exit → Act → World → Prop
 | .panic c, a, w => ∀ a' : Act, a'.defers = a.defers → a'.tmps.size = a.tmps.size → Q (.panic c) a' w
 | e, a, w => Q e a w
theorem SP.stays : awi (SP Q) := fun c a d v w h a' h1 h2 => h a' (by rw [h1]; cases d <;> rfl) (by rw [h2]; cases d <;> simp [Act.put])
theorem QX.strong {c : List PanicEntry} (h : QX Q (.panic c) C [] H) : QX (SP Q) (.panic c) C L H := fun a w hf hp a' h1 h2 => h a' w ⟨h1.trans hf.defers, by rw [h2]; exact hf.size, fun i v hg => by cases hg⟩ hp
def ayu (l : List Oper) (n : Nat) : Bool := match l[l.length - 1]? with
 | some o => (List.range n).all fun i => o.after.any fun e => Region.binds .any e && Nat.beq e.on i
 | none => false
theorem x3 {id : Nat} {l : List Oper} {L : Sl} (n : Nat) (idx : List Nat) (HK : List HA) (hi : x5 idx = true) (hk : sel H idx = HK) (hm : P.follows .mixedOrders = true) (hB : (Region.noSelect l.toArray && Nat.blt n l.length && ayu l n && Region.lexHead .any l.toArray (l.length - n) n 0 (Array.replicate l.length false)) = true)
  (h : ∀ T : Sl → Prop, (∀ L', WLX P l.toArray (SP Q) C HK L' H (l.drop n) → T L') → TW P l.toArray C HK T L (l.take n)) : WC P (.region id l.toArray true) Q C L H := by
 intro a w hf hp
 simp only [Bool.and_eq_true] at hB
 obtain ⟨⟨⟨hsel, hn⟩, hla⟩, hlex⟩ := hB
 have hn' : n < l.length := Nat.blt_eq ▸ hn
 have htl : (l.take n).length = n := by simp; omega
 refine wp_mono (Q := SP Q) (wp_region_any hm ?_) (fun e a w hq => ?_)
 ·have := akk _ _ _ _ (ati (P := P) (ops := l.toArray) (Q := SP Q) (C := C) (H := H) (HK := HK) (g := l.length - n) (tail := l.drop n) (q := l.length - 1) hsel SP.stays (by simp) (l.take n) 0 (Array.replicate l.length false) L a w.drew
   (by rw [htl]; omega) (fun j hj => by rw [htl] at hj; simp [hj]) (fun j => by rw [htl]; simp [List.getElem?_drop])
   (fun i hi oq hoq => by
    unfold ayu at hla
    have h1 : l[l.length - 1]? = some oq := by simpa using hoq
    rw [h1] at hla
    have h2 := List.all_eq_true.1 hla i (List.mem_range.2 (by rw [htl] at hi; omega))
    obtain ⟨e, he, hb⟩ := Array.any_eq_true'.1 h2
    simp only [Bool.and_eq_true] at hb
    exact ⟨e, he, hb.1, Nat.eq_of_beq_eq_true hb.2⟩)
   (by rw [htl]; exact hlex) hf hp.drew (hk ▸ hp.drew.pick idx hi) (h _ fun _ hh => hh))
  rw [htl, show n + (l.length - n) = l.length by omega] at this
  simpa using this
 ·cases e with
  | panic c => exact hq a rfl rfl
  | _ => exact hq
theorem Hp.right {A B : List HA} {w : World} (h : Hp C (A ++ B) w) : Hp C B w := by
 obtain ⟨F, h1, h2, h3⟩ := h.own
 obtain ⟨F1, F2, rfl, _, hB⟩ := h1.split
 exact ⟨h.os, h.tape, h.output, h.size, h.keep, h.ro, F2, hB, (List.nodup_append.1 h2).2.1, fun k hk => h3 k (List.mem_append.2 (.inr hk))⟩
theorem WLX.nil {HK : List HA} (h : QX Q .normal C L H) : WLX P ops (SP Q) C HK L H [] := fun a w hf hp => h a w hf hp
theorem WLX.op {HK H' : List HA} {L' : Sl} (idx : List Nat) (hi : x5 idx = true) (hk : sel H' idx = HK) (hop : OpK P o Q C L H L' H') (hw : r9 ops L o = some true) (h : WLX P ops Q C HK L' H' rest) : WLX P ops Q C HK L H (o :: rest) :=
 fun a w hf hp => ⟨m3 hf hw, hop _ (fun a' w' hf' hp' => ⟨fun _ => hk ▸ hp'.pick idx hi, h a' w' hf' hp'⟩) a w hf hp⟩
theorem WLX.opZ {HK H' : List HA} {L' : Sl} (hop : OpK P o Q C L H L' H') (hw : r9 ops L o = some true) (h : WLX P ops Q C HK L' H' []) : WLX P ops Q C HK L H [o] :=
 fun a w hf hp => ⟨m3 hf hw, hop _ (fun a' w' hf' hp' => ⟨fun e => absurd rfl e, h a' w' hf' hp'⟩) a w hf hp⟩
theorem WLX.pick {HK : List HA} {l : List Oper} (idx : List Nat) (hi : x5 idx = true) {H' : List HA} (he : sel H idx = H') (h : WLX P ops Q C HK L H' l) : WLX P ops Q C HK L H l := fun a w hf hp => h a w hf (he ▸ hp.pick idx hi)
theorem WLX.callS {HK : List HA} {f : FuncId} {vs : List Value} {d : Nat} {R : List (Nat × Obj)} {A Rest : List HA} {S : Out → Prop} (idx : List Nat) (hi : x5 idx = true) (hE : EN P C L H o f vs) (hd : o.dst = some d) (hc : c8 P f vs R A S) (hH : H = A ++ Rest) (hk : sel Rest idx = HK) (hR : ROk C Rest R)
  (hw : r9 ops L o = some true) (hn : Nat.blt d C.n = true)
  (h : ∀ r H', S (.ret r H') → WLX P ops Q C HK ((d, r) :: L) (H' ++ Rest) rest) (hpan : ∀ c H', S (.pan c H') → QX Q (.panic c) C L (H' ++ Rest)) : WLX P ops Q C HK L H (o :: rest) := by
 intro a w hf hp
 subst hH
 refine ⟨m3 hf hw, ?_⟩
 unfold Oper.wp
 rw [hE a w hf hp]
 simp only [Oper.upon]
 refine (atn hc hp hR).mono ?_
 rintro en w' ⟨H', hS, hh⟩
 rcases hS with ⟨r, rfl, hS⟩ | ⟨c, rfl, hS⟩
 ·rw [hd]
  exact ⟨fun _ => hk ▸ hh.right.pick idx hi, h r H' hS _ _ (hf.put hn r) hh⟩
 ·exact hpan c H' hS _ _ hf hh
end Go.Proofs.YtohnchdnkbadaaaDoor
namespace Go.Proofs.YtohnchdnkbadaaaDoor
open Go Go.RowKit
variable {P : Program} {ops : Array Oper} {Q : Exit → Act → World → Prop} {C : Cx} {L : Sl} {H : List HA} {rest : List Oper} {o : Oper} {B : List (Nat × Obj)} {v u : Value} {vs : List Value} {d : Nat}
def Rd (C : Cx) (H : List HA) (R : List (Nat × Obj)) : Prop := ∀ p ∈ R, ∀ w, Hp C H w → w.heap[p.1]? = some p.2
theorem Rd.nil : Rd C H [] := fun p hp => by cases hp
theorem Rd.pool (i : Nat) (hi : H[i]? = some (pool B)) : Rd C H B := fun p hp w h => by
 obtain ⟨F, h1, _⟩ := h.own
 exact (h1.mem_pool hi p hp).1
theorem Rd.old : Rd C H C.R := fun _ hp _ h => h.old hp
def CV (P : Program) (C : Cx) (L : Sl) (H : List HA) (o : Oper) (v : Value) : Prop := ∃ f vs R, EN P C L H o f vs ∧ c8 P f vs R [] (Ret v []) ∧ Rd C H R
theorem WL.cv (hC : CV P C L H o v) (hd : o.dst = some d) (hw : r9 ops L o = some true) (hn : Nat.blt d C.n = true)
  (h : WL P ops Q C ((d, v) :: L) H rest) : WL P ops Q C L H (o :: rest) := by
 intro a w hf hp
 obtain ⟨f, vs, R, hE, hc, hR⟩ := hC
 refine w8 (m3 hf hw) ?_
 unfold Oper.wp
 rw [hE a w hf hp]
 simp only [Oper.upon]
 refine (hc w [] rfl List.nodup_nil (fun k hk => by cases hk) (fun q hq => ⟨hR q hq w hp, by simp⟩)).mono ?_
 rintro en w' ⟨H', hS, hh⟩
 rcases hS with ⟨r, rfl, hS⟩ | ⟨c, rfl, hS⟩
 ·cases hS
  rw [hd]
  exact h _ _ (hf.put hn v) (hp.below hh.toBelow)
 ·cases hS
theorem FL.cv {T : World → o7 → Act → Prop} {L : FSl} {zl : List (Nat × Obj)} {k : Nat} (hC : ∀ β, CV P C (L β) H o v) (hd : o.dst = some d)
  (hz : y8 zl k = none) (hw : ∀ β, r9 ops (L β) o = some true) (hn : Nat.blt d C.n = true)
  (h : FL P ops T C (fun β => (d, v) :: L β) H zl (k + 1) rest) : FL P ops T C L H zl k (o :: rest) := by
 intro A w0 hf hp
 refine ⟨fun _ => v, .inr ⟨hz, v, rfl, fun β => .inl ⟨m3 (hf β) (hw β), fun w hb => ?_⟩⟩, ?_⟩
 ·have hpw := hp.below hb
  obtain ⟨f, vs, R, hE, hc, hR⟩ := hC β
  rw [hE _ w (hf β) hpw]
  refine (hc w [] rfl List.nodup_nil (fun k hk => by cases hk) (fun q hq => ⟨hR q hq w hpw, by simp⟩)).mono ?_
  rintro en w' ⟨H', hS, hh⟩
  rcases hS with ⟨r, rfl, hS⟩ | ⟨c, rfl, hS⟩
  ·cases hS; exact ⟨rfl, hh.toBelow⟩
  ·cases hS
 ·rw [hd]; exact h _ w0 (fun β => (hf β).put hn v) hp
def acu (P : Program) (B : List (Nat × Obj)) (u : Value) (args : List Value) (v : Value) : Prop := ∃ f caps, u = .func (.func f) #[] (List.toArray caps) ∧ o6 P f = true ∧ c8 P f (args ++ caps) B [] (Ret v [])
def aan (P : Program) (u : Value) (name : String) (args : List Value) (v : Value) : Prop := ∃ f T r, u = .iface T r ∧ awf P T name = some f ∧ asv P T = true ∧ o6 P f = true ∧ c8 P f (r :: args) [] [] (Ret v [])
section cv
variable {x : Operand} {xs : List Operand} {ats : Array TypeId} {ty : TypeId} {p : String} {e : Array Edge} {g : Option (Nat × Bool)} {name : String} {do_ : Option Tmp}
theorem CV.value (hx : ev L x = some u) (hV : acu P B u vs v) (hxs : evs L xs = some vs) (hR : Rd C H B) : CV P C L H ⟨do_, .call ⟨.value x, xs.toArray, ats⟩, ty, p, e, g⟩ v := by
 obtain ⟨f, caps, rfl, he, hc⟩ := hV
 exact ⟨f, vs ++ caps, B, EN.value hx he hxs, hc, hR⟩
theorem CV.meth (hx : ev L x = some u) (hM : aan P u name vs v) (hxs : evs L xs = some vs) : CV P C L H ⟨do_, .call ⟨.invoke x name, xs.toArray, ats⟩, ty, p, e, g⟩ v := by
 obtain ⟨f, T, r, rfl, hm, hp, he, hc⟩ := hM
 exact ⟨f, r :: vs, [], EN.invoke hx hm hp he hxs, hc, Rd.nil⟩
end cv
theorem c8.more {f : FuncId} {R R' : List (Nat × Obj)} {A : List HA} {S : Out → Prop} (h : c8 P f vs R A S) (hs : ∀ p ∈ R, p ∈ R') : c8 P f vs R' A S := fun w M hO hn hl hr =>
 (h w M hO hn hl fun p hp => hr p (hs p hp)).mono fun _ _ ⟨H', hS, hh⟩ => ⟨H', hS, ⟨hh.os, hh.tape, hh.output, hh.size, hh.keep, hr, hh.own⟩⟩
theorem acu.more {B' : List (Nat × Obj)} (h : acu P B u vs v) (hs : ∀ p ∈ B, p ∈ B') : acu P B' u vs v := by
 obtain ⟨f, caps, h1, h2, h3⟩ := h
 exact ⟨f, caps, h1, h2, h3.more hs⟩
theorem acu.func {f : FuncId} {caps : List Value} (he : o6 P f = true) (h : c8 P f (vs ++ caps) B [] (Ret v [])) : acu P B (.func (.func f) #[] caps.toArray) vs v := ⟨f, caps, rfl, he, h⟩
end Go.Proofs.YtohnchdnkbadaaaDoor
namespace Go.Proofs.YtohnchdnkbadaaaDoor
open Go Go.RowKit
variable {P : Program} {ops : Array Oper} {Q : Exit → Act → World → Prop} {C : Cx} {L : Sl} {H HK : List HA} {rest : List Oper} {o : Oper} {d : Nat}
def azl (P : Program) (C : Cx) (L : Sl) (H : List HA) (o : Oper) (Φ : Value → List HA → Prop) : Prop := ∀ a w, Fr C L a → Hp C H w → ∃ v w' H', (execOp a.eval o).run P w = .ok (.value v) w' ∧ Φ v H' ∧ Hp C H' w'
theorem WLX.valX {Φ : Value → List HA → Prop} (hv : azl P C L H o Φ) (idx : List Nat) (hi : x5 idx = true) (hk : ∀ v H', Φ v H' → sel H' idx = HK) (hd : o.dst = some d) (hw : r9 ops L o = some true) (hn : Nat.blt d C.n = true)
  (h : ∀ v H', Φ v H' → WLX P ops Q C HK ((d, v) :: L) H' rest) : WLX P ops Q C HK L H (o :: rest) := by
 intro a w hf hp
 obtain ⟨v, w', H', hr, hΦ, hp'⟩ := hv a w hf hp
 refine ⟨m3 hf hw, ?_⟩
 unfold Oper.wp
 rw [hr]
 simp only [Oper.upon, hd]
 exact ⟨fun _ => hk v H' hΦ ▸ hp'.pick idx hi, h v H' hΦ _ _ (hf.put hn v) hp'⟩
theorem WLX.make {Z : Obj} {f : Nat → Value} (hv : MV P C L H o Z f) (idx : List Nat) (hi : x5 idx = true) (hk : ∀ b, sel (.blk b Z :: H) idx = HK) (hd : o.dst = some d) (hw : r9 ops L o = some true) (hn : Nat.blt d C.n = true)
  (h : ∀ b, WLX P ops Q C HK ((d, f b) :: L) (.blk b Z :: H) rest) : WLX P ops Q C HK L H (o :: rest) :=
 WLX.valX (Φ := fun v H' => ∃ b, v = f b ∧ H' = .blk b Z :: H) (fun a w hf hp => ⟨_, _, _, hv a w hf hp, ⟨_, rfl, rfl⟩, hp.alloc Z⟩) idx hi (fun _ _ ⟨b, _, e⟩ => e ▸ hk b) hd hw hn (fun _ _ ⟨b, e1, e2⟩ => by subst e1; subst e2; exact h b)
section ap
variable {α : Type} {f : α → List Value} {sz : Nat} {v : Value} {l ms : List α} {s x : Operand} {t e' T ty : TypeId} {p : String} {e : Array Edge} {cs zs : List Value} {bytes : Nat}
theorem ab2 (i j : Nat) {b : Nat} {m c : Nat} (hs : ev L s = some v) (hx : ev L x = some (.slice (some ⟨b, 0, none⟩) m c)) (hi : H[i]? = some (.row v e' sz l.length (l.flatMap f))) (hj : H[j]? = some (.blk b (.cells cs.toArray T (0, 0)))) (hc : cs = ms.flatMap f) (hm : ms.length = m)
  (hf' : ∀ x, (f x).length = sz) (h0 : 0 < sz) (h1 : cs.all (·.oneCell') = true) (ht : slB P t e' sz = true) (hinf : ajd P e' = some (zs, sz, bytes)) (hzs : zs.length = sz) (hb : ((l.length + m) + (l.length + m) / 4 + 192) * bytes ≤ 281474976710656 ∧ l.length + m ≤ 9223372036854775807) :
  azl P C L H ⟨some d, .call ⟨.builtin .append, #[s, x], #[t, t]⟩, ty, p, e, none⟩ (fun v' H' => H' = H.set i (.row v' e' sz (l ++ ms).length ((l ++ ms).flatMap f))) := by
 intro a w hf hp
 obtain ⟨inf, z, q1, q2, q3, q4, q5⟩ := ag7 hinf
 have hblk := hp.blk hj
 subst hm
 have hlen : cs.length = ms.length * sz := by rw [hc, aas hf']
 have hnews : ∀ q u, cs[q]? = some u → w.cell? ((⟨b, 0, none⟩ : Addr).add q) = some u := fun q u hq => by
  rw [Addr.add_mid, Nat.zero_add]; simp [World.cell?, hblk, hq]
 have hone : ∀ u ∈ cs, u.oneCell' = true := fun u hu => (List.all_eq_true.1 h1) u hu
 obtain ⟨v', w', hr, r1, r2, _⟩ := run_append_own_wide (P := P) w 0 t ty e' inf z sz bytes (aau ht).1 q1 q2 q4 q5 (by rw [q3]; simpa using hzs) h0 v l.length (l.flatMap f) (hp.row hi) ⟨b, 0, none⟩ ms.length c cs hlen hnews hone (by simp only [maxLen]; omega) hb.1 (Nat.zero_le _)
 refine ⟨v', w', _, ?_, rfl, hp.swap hi r2.os r2.tape r2.output r2.size (fun F hF k hk hkF => r2.block k hk (fun e => hkF (by rw [hF.1, ← e]; simp))) (fun F hF _ => ⟨v'.ownBlock.toList, ⟨rfl, by rw [List.length_append, List.flatMap_append, ← hc]; exact r1⟩, by cases v'.ownBlock <;> simp, fun k hk => ?_⟩)⟩
 ·unfold execOp
  simp only [resolve, invoke, builtin, Sem.run_bind, Sem.run_pure, Result.andThen_ok, List.map_toArray, List.map_cons, List.map_nil, hf.ev hs, hf.ev hx, hr]
 ·have hk' : v'.ownBlock = some k := by simpa using hk
  refine ⟨?_, (r1.lt k hk').2⟩
  rcases amx (aau ht).1 q1 q2 q4 q5 (hp.row hi) hlen hnews hone hb.2 hb.1 hr hk' with h4 | h4
  ·exact .inl (by rw [hF.1, h4]; simp)
  ·exact .inr h4
end ap
theorem OpK.storeSl {x y : Operand} {t ty T T' : TypeId} {p : String} {e : Array Edge} {g : Option (Nat × Bool)} {b off sz n : Nat} {v : Value} {xs cs cs' : List Value} (i k : Nat)
  (hx : ev L x = some (.pointer (some ⟨b, off, none⟩))) (hy : ev L y = some v) (hi : H[i]? = some (.blk b (.cells cs.toArray T (0, 0)))) (hk : H[k]? = some (.row v T' sz n xs)) (hs : s8 P t 1 = true)
  (hfit : off + 1 ≤ cs.length) (he : cs.take off ++ [v] ++ cs.drop (off + 1) = cs') : OpK P ⟨none, .store t x y, ty, p, e, g⟩ Q C L H L (H.set i (.blk b (.cells cs'.toArray T (0, 0)))) := by
 intro K hK a w hf hp
 rcases (hp.row hk).2 with ⟨rfl, _⟩ | ⟨_, _, _, rfl, _⟩
 ·exact OpK.store (vs := [_]) i hx hy hi rfl hs hfit rfl he K hK a w hf hp
 ·exact OpK.store (vs := [_]) i hx hy hi rfl hs hfit rfl he K hK a w hf hp
theorem HA.shorter {w : World} {v : Value} {T sz m : Nat} {α : Type} {f : α → List Value} {l : List α} {F : List Nat} (hf' : ∀ x, (f x).length = sz) (hm : m ≤ l.length) (h : HA.at w (.row v T sz l.length (l.flatMap f)) F) : HA.at w (.row (agh v m) T sz (l.take m).length ((l.take m).flatMap f)) F := by
 obtain ⟨rfl, hl, hr⟩ := h
 have hlen : (l.take m).length = m := by simp; omega
 rcases hr with ⟨rfl, h0⟩ | ⟨g, cap, cur, rfl, hg, hb, hn, hcm, hcs, htk⟩
 ·have : m = 0 := by omega
  subst this
  refine ⟨rfl, ?_, .inl ⟨rfl, hlen⟩⟩
  simp
 ·refine ⟨rfl, aas hf' _, .inr ⟨g, cap, cur, by rw [hlen]; rfl, hg, hb, by omega, hcm, hcs, ?_⟩⟩
  rw [hlen]
  have h2 : l.flatMap f = (l.take m).flatMap f ++ (l.drop m).flatMap f := by rw [← List.flatMap_append, List.take_append_drop]
  have h3 : cur.toList.take (m * sz) = (cur.toList.take (l.length * sz)).take (m * sz) := by
   rw [List.take_take, Nat.min_eq_left (Nat.mul_le_mul_right _ hm)]
  rw [h3, htk, h2, List.take_left' (by rw [aas hf', hlen])]
theorem Hp.shorter {w : World} {v : Value} {T sz m : Nat} {α : Type} {f : α → List Value} {l : List α} (i : Nat) (hi : H[i]? = some (.row v T sz l.length (l.flatMap f))) (hf' : ∀ x, (f x).length = sz) (hm : m ≤ l.length) (h : Hp C H w) : Hp C (H.set i (.row (agh v m) T sz (l.take m).length ((l.take m).flatMap f))) w :=
 h.swap hi rfl rfl rfl (Nat.le_refl _) (fun _ _ _ _ _ => rfl) (fun F hF hn => ⟨F, HA.shorter hf' hm hF, hn, fun k hk => ⟨.inl hk, by
  obtain ⟨F0, h1, _, h3⟩ := h.own
  have h4 := (h1.mem_row hi).2 k (by have := hF.1; rw [this] at hk; simpa using hk)
  exact (h3 k h4).1⟩⟩)
theorem WL.shorter {v : Value} {T sz m : Nat} {α : Type} {f : α → List Value} {l : List α} {r : List Oper} (i : Nat) (hi : H[i]? = some (.row v T sz l.length (l.flatMap f))) (hf' : ∀ x, (f x).length = sz) (hm : m ≤ l.length)
  (h : WL P ops Q C L (H.set i (.row (agh v m) T sz (l.take m).length ((l.take m).flatMap f))) r) : WL P ops Q C L H r := fun a w hf hp => h a w hf (hp.shorter i hi hf' hm)
theorem m6 : ([] : List Value).all (·.oneCell') = true := rfl
theorem c9 {u : Value} {vs : List Value} (h : u.oneCell' = true) (h' : vs.all (·.oneCell') = true) : (u :: vs).all (·.oneCell') = true := by rw [List.all_cons, h, h']; rfl
theorem am3 {u : Value} (h : u.oneCell' = true) : u.cells = [u].toArray := by cases u <;> first | rfl | (cases h; done)
def ana (place : Nat → Option (Nat × Nat)) (cells : Array Value) : List (Nat × List Value) → Option (Array Value)
 | [] => some cells
 | (i, v) :: rest =>
  match place i with
  | none => none
  | some (off, size) => if v.length ≠ size || off + v.length > cells.size then none else ana place (v.toArray.zipIdx.foldl (fun cs (c, j) => cs.setIfInBounds (off + j) c) cells) rest
def alh : List (Nat × Value) → List (Nat × List Value) → Prop
 | [], [] => True
 | p :: r, q :: s => p.1 = q.1 ∧ p.2.cells = q.2.toArray ∧ alh r s
 | _, _ => False
theorem agp {place : Nat → Option (Nat × Nat)} : ∀ {ps : List (Nat × Value)} {qs : List (Nat × List Value)} (cells : Array Value), alh ps qs → Instr.fill place cells ps = ana place cells qs
 | [], [], _, _ => rfl
 | (i, v) :: ps, (j, l) :: qs, cells, h => by
  obtain ⟨h1, h2, h3⟩ := h
  simp only at h1 h2
  subst h1
  unfold Instr.fill ana
  cases hp : place i with
  | none => rfl
  | some q =>
   obtain ⟨off, size⟩ := q
   simp only [h2, List.size_toArray, agp _ h3]
 | [], _ :: _, _, h => h.elim
 | _ :: _, [], _, h => h.elim
def awj (P : Program) (t : TypeId) (parts : List (Nat × List Value)) : Option (Array Value) :=
 match P.info? t, P.underlying t with
 | some it, some (.array _ e) =>
  match it.zero, P.info? e with
  | some z, some ie => ana (fun i => some (i * ie.size, ie.size)) z.cells parts
  | _, _ => none
 | some it, some (.struct fields) =>
  match it.zero, fields.toList.mapM (fun f => (P.info? f.type).map fun i => (f.offset, i.size)) with
  | some z, some places => ana (places.toArray[·]?) z.cells parts
  | _, _ => none
 | _, _ => none
theorem OV.buildC {t ty : TypeId} {d : Option Tmp} {p : String} {e : Array Edge} {g : Option (Nat × Bool)} {ps : List (Nat × Operand)} {vs : List (Nat × Value)} {qs : List (Nat × List Value)} {cs : List Value} (hx : evp L ps = some vs) (hc : alh vs qs) (hb : awj P t qs = some cs.toArray) : OV P C L H ⟨d, .build t ps.toArray, ty, p, e, g⟩ (.agg cs.toArray) := by
 refine OV.build hx ?_
 have h1 : ∀ place cells, Instr.fill place cells vs = ana place cells qs := fun _ cells => agp cells hc
 rw [← hb]
 simp only [Program.built, awj, h1]
 rfl
theorem WL.rowOne {r : List Oper} {v : Value} {T sz n : Nat} {xs : List Value} (i : Nat) (hi : H[i]? = some (.row v T sz n xs)) (h : v.oneCell' = true → WL P ops Q C L H r) : WL P ops Q C L H r := fun a w hf hp => by
 have h1 : v.oneCell' = true := by
  rcases (hp.row hi).2 with ⟨rfl, _⟩ | ⟨_, _, _, rfl, _⟩ <;> rfl
 exact h h1 a w hf hp
theorem LIn.one {v : Value} {n : Nat} {xs : List Value} (h : LIn C v n xs) : v.oneCell' = true := by
 obtain ⟨R, h1, _⟩ := h
 rcases h1 with ⟨_, _, ⟨_, _, rfl⟩, _⟩ | ⟨_, _, _, _, _, _, rfl, _⟩ <;> rfl
theorem anm : ∀ (l : List Value) (a : Array Value) (k i : Nat), ((l.zipIdx k).foldl (fun (a : Array Value) (p : Value × Nat) => a.setIfInBounds (0 + p.2) p.1) a)[i]? = if k ≤ i ∧ i < k + l.length ∧ i < a.size then l[i - k]? else a[i]?
 | [], a, k, i => by
  have : ¬ (k ≤ i ∧ i < k + ([] : List Value).length ∧ i < a.size) := by simp; omega
  rw [if_neg this]; rfl
 | x :: l, a, k, i => by
  rw [List.zipIdx_cons, List.foldl_cons, anm l _ (k + 1) i]
  simp only [Array.size_setIfInBounds, Nat.zero_add, List.length_cons]
  by_cases h1 : k + 1 ≤ i ∧ i < k + 1 + l.length ∧ i < a.size
  ·rw [if_pos h1, if_pos (by omega), show i - k = (i - (k + 1)) + 1 by omega, List.getElem?_cons_succ]
  ·rw [if_neg h1]
   by_cases h2 : k ≤ i ∧ i < k + (l.length + 1) ∧ i < a.size
   ·have : i = k := by omega
    subst this
    rw [if_pos h2]; simp [h2.2.2]
   ·rw [if_neg h2]
    by_cases hk : k = i
    ·subst hk
     have : ¬ k < a.size := by omega
     simp [this]
    ·rw [Array.getElem?_setIfInBounds_ne hk]
theorem MV.buildSlice1 {t e' ty : TypeId} {d : Option Tmp} {p : String} {e : Array Edge} {g : Option (Nat × Bool)} {x : Operand} {v : Value} {cs zs : List Value} {sz : Nat} (hx : ev L x = some v) (hv : v.cells = cs.toArray) (hs : slB P t e' sz = true) (hz : abm P e' = some zs) (hl : cs.length = sz) (hl2 : zs.length = sz) (h0 : (0 < sz ∧ sz ≤ 65536) := by decide) :
  MV P C L H ⟨d, .buildSlice t 1 #[(0, x)], ty, p, e, g⟩ (.cells cs.toArray e' (0, 0)) (fun b => .slice (some ⟨b, 0, none⟩) 1 1) := by
 refine MV.buildSlice (ps := [(0, x)]) (vs := [(0, v)]) (e' := e') (sz := sz) (by simp only [evp, hx]) hs ?_
 have hsz := (aau hs).2
 unfold s8 at hsz
 unfold abm at hz
 unfold Program.builtSlice
 cases hi : P.info? e' with
 | none => rw [hi] at hsz; simp at hsz
 | some ie =>
  rw [hi] at hsz hz
  have hsz : ie.size = sz := by simpa using hsz
  cases hq : ie.zero with
  | none => rw [Option.bind_some, hq] at hz; cases hz
  | some z =>
   rw [Option.bind_some, hq] at hz
   have hz : z.cells.toList = zs := by simpa using hz
   have hzl : z.cells.size = sz := by rw [← hl2, ← hz]; simp
   simp only [hq, Nat.one_mul, hsz]
   rw [if_neg (by omega)]
   unfold Instr.fill
   have hvs : v.cells.size = sz := by rw [hv]; simpa using hl
   simp only [hvs, Nat.zero_mul, Nat.zero_add, Array.size_map, Array.size_range]
   rw [if_neg (by simp)]
   unfold Instr.fill
   congr 1
   rw [hv]
   apply Array.ext_getElem?
   intro i
   have hfa : (List.toArray cs).zipIdx.foldl (fun (a : Array Value) (x : Value × Nat) => a.setIfInBounds (0 + x.2) x.1) ((Array.range sz).map (fun x => z.cells[x % z.cells.size]!)) = (cs.zipIdx 0).foldl (fun (a : Array Value) (x : Value × Nat) => a.setIfInBounds (0 + x.2) x.1) ((Array.range sz).map (fun x => z.cells[x % z.cells.size]!)) := by
    simp
   simp only [Nat.zero_add] at hfa ⊢
   have h2 := anm cs ((Array.range sz).map (fun x => z.cells[x % z.cells.size]!)) 0 i
   simp only [Nat.zero_add, Nat.zero_le, true_and, Nat.sub_zero, Array.size_map, Array.size_range] at h2
   refine (congrArg (·[i]?) hfa).trans (h2.trans ?_)
   by_cases hi2 : i < cs.length
   ·rw [if_pos ⟨hi2, by omega⟩]; simp
   ·rw [if_neg (by omega)]
    simp [show ¬ i < sz by omega, hi2]
theorem Hp.newPool {w : World} (h : Hp C H w) : Hp C (pool [] :: H) w := by
 obtain ⟨F, h1, h2⟩ := h.own
 exact ⟨h.os, h.tape, h.output, h.size, h.keep, h.ro, F, ⟨[], F, rfl, ⟨rfl, fun p hp => by cases hp⟩, h1⟩, h2⟩
end Go.Proofs.YtohnchdnkbadaaaDoor
namespace Go.Proofs.YtohnchdnkbadaaaDoor
open Go Go.RowKit
variable {P : Program} {Q : Exit → Act → World → Prop} {C : Cx} {L : Sl} {H : List HA}
section st
variable {x y : Operand} {t ty T : TypeId} {p : String} {e : Array Edge} {g : Option (Nat × Bool)} {v u : Value} {sz : Nat} {α : Type} [Inhabited α] {f : α → List Value} {l : List α}
omit [Inhabited α] in
theorem OpK.storeE (i : Nat) {j : Nat} {z : α} (hx : ev L x = some (.pointer (some ⟨o8 v, j * sz, none⟩))) (hy : ev L y = some u) (hi : H[i]? = some (.row v T sz l.length (l.flatMap f))) (hf' : ∀ x, (f x).length = sz) (h0 : 0 < sz) (hj : j < l.length) (hv : u.cells = (f z).toArray) (hs : s8 P t sz = true) (h1 : (f z).all (·.oneCell') = true) :
  OpK P ⟨none, .store t x y, ty, p, e, g⟩ Q C L H L (H.set i (.row v T sz (l.set j z).length ((l.set j z).flatMap f))) := by
 have := OpK.storeRow (Q := Q) (C := C) (p := p) (e := e) (g := g) (ty := ty) (xs' := (l.set j z).flatMap f) i hx hy hi hv (by rw [hf']; exact hs) (fun e => by have := hf' z; rw [e, List.length_nil] at this; omega) (by
  rw [aas hf', hf']
  have : (j + 1) * sz ≤ l.length * sz := Nat.mul_le_mul_right _ hj
  rw [Nat.add_mul, Nat.one_mul] at this; exact this) h1 (by
  rw [hf']
  have h2 : j * sz + sz = (j + 1) * sz := by rw [Nat.add_mul, Nat.one_mul]
  have h1 : ∀ (l : List α) (i : Nat), (l.flatMap f).take (i * sz) = (l.take i).flatMap f := by
   intro l
   induction l with
   | nil => intro i; simp
   | cons y l ih =>
    intro i
    cases i with
    | zero => simp
    | succ i =>
     rw [List.flatMap_cons, Nat.add_mul, Nat.one_mul, Nat.add_comm, List.take_append, hf', List.take_of_length_le (by rw [hf']; omega), show sz + i * sz - sz = i * sz by omega, ih i]; rfl
  rw [h1, h2, ac3 hf', List.set_eq_take_append_cons_drop, if_pos hj]
  simp [List.flatMap_append])
 rw [List.length_set]; exact this
theorem OpK.storeEF (i : Nat) {j o : Nat} {z : α} (hx : ev L x = some (.pointer (some ⟨o8 v, j * sz + o, none⟩))) (hy : ev L y = some u) (hi : H[i]? = some (.row v T sz l.length (l.flatMap f))) (hf' : ∀ x, (f x).length = sz) (hj : j < l.length) (ho : o < sz) (hv : u.cells = #[u]) (hs : s8 P t 1 = true) (h1 : u.oneCell' = true) (he : (f (l.getD j default)).set o u = f z) :
  OpK P ⟨none, .store t x y, ty, p, e, g⟩ Q C L H L (H.set i (.row v T sz (l.set j z).length ((l.set j z).flatMap f))) := by
 have := OpK.storeRow (Q := Q) (C := C) (p := p) (e := e) (g := g) (ty := ty) (vs := [u]) i hx hy hi hv hs (by simp) (by
  rw [aas hf']
  have : (j + 1) * sz ≤ l.length * sz := Nat.mul_le_mul_right _ hj
  rw [Nat.add_mul, Nat.one_mul] at this; simp only [List.length_cons, List.length_nil]; omega) (by simp [h1]) (amp hf' hj ho he)
 rw [List.length_set]; exact this
end st
theorem CV.fn {f : FuncId} {xs : List Operand} {ats : Array TypeId} {d : Option Tmp} {ty : TypeId} {p : String} {e : Array Edge} {g : Option (Nat × Bool)} {vs : List Value} {R : List (Nat × Obj)} {v : Value} (he : o6 P f = true) (hx : evs L xs = some vs) (hc : c8 P f vs R [] (Ret v [])) (hR : Rd C H R) :
  CV P C L H ⟨d, .call ⟨.value (.func f), xs.toArray, ats⟩, ty, p, e, g⟩ v := ⟨f, vs, R, EN.fn he hx, hc, hR⟩
theorem c8.one {P : Program} {f : FuncId} {args : List Value} {R : List (Nat × Obj)} {α : Type} {e : α → Value} {c : α} (h : c8 P f args R [] (fun o => (∃ v, v = c ∧ o = .ret (e v) []) ∨ False)) : c8 P f args R [] (Ret (e c) []) := h.weak (by
 rintro o (⟨v, rfl, rfl⟩ | h)
 ·rfl
 ·exact h.elim)
theorem d8.of5 {fn : Func} {r s q z j : ResultVar} {v u x y k : Value} (hr : fn.results = #[r, s, q, z, j]) (h0 : RV P C L H r v) (h1 : RV P C L H s u) (h2 : RV P C L H q x) (h3 : RV P C L H z y) (h4 : RV P C L H j k) : d8 P fn C L H (.tuple #[v, u, x, y, k]) := fun a w hf hp => by
 rw [adk, hr]
 simp [h0 a w hf hp, h1 a w hf hp, h2 a w hf hp, h3 a w hf hp, h4 a w hf hp]
end Go.Proofs.YtohnchdnkbadaaaDoor
namespace Go.Proofs.YtohnchdnkbadaaaDoor
open Go Go.RowKit
set_option maxRecDepth 100000 in
theorem ael {ops : Array Oper} {rest : List Oper} {a : Act} {w : World} {Q : Exit → Act → World → Prop} {d : Tmp} {ty t1 : TypeId} {x : Operand} {p1 : String} {e1 : Array Edge} {gd : Option (Nat × Bool)}
  (g : Nat) (t : TypeId) {cs : Array Value} {fr : Nat × Nat} (hg : w.heap[g]? = some (.cells cs t fr)) (ht : RowT Tryd.prog ty cs.size)
  (hw : Region.wanted ⟨some d, .load ty x, t1, p1, e1, gd⟩ (yielded ops a.tmps) = true)
  (hx : a.eval x = .pointer (some ⟨g, 0, none⟩)) (h : wpList Tryd.prog ops Q rest (a.put (some d) (.agg cs)) w) :
  wpList Tryd.prog ops Q (⟨some d, .load ty x, t1, p1, e1, gd⟩ :: rest) a w := by
 simp only [wpList, hw, if_true]
 left
 rcases ht.desc with ⟨fs, hu⟩ | ⟨n, e, hu⟩
 ·exact wp_load_row ty x rfl g hx t cs fr _ hg hu rfl ht.size h
 ·exact wp_load_row ty x rfl g hx t cs fr _ hg hu rfl ht.size h
def spB : ByteArray := ⟨#[40, 41, 91, 93, 123, 125, 124, 38, 45, 42, 43, 63, 46, 92, 47, 94]⟩
def inB : ByteArray := ⟨#[92, 93, 91, 45, 94, 47]⟩
def spL : List UInt8 := [40, 41, 91, 93, 123, 125, 124, 38, 45, 42, 43, 63, 46, 92, 47, 94]
def inL : List UInt8 := [92, 93, 91, 45, 94, 47]
set_option maxRecDepth 100000 in
theorem l8 (b : Nat) (l : List UInt8) : (m5 b l).length ≤ 4 := by
 unfold m5
 cases aqp b with
 | some c => simp
 | none =>
  simp only
  by_cases h : b < 32 ∨ 126 < b
  ·rw [if_pos h]; simp
  ·rw [if_neg h]; cases l.contains b.toUInt8 <;> simp
def adr (s : CS) : Nat → Nat → Nat
 | 0, e => e
 | n + 1, e => if e < 255 ∧ s.getLsbD (e + 1) = true then adr s n (e + 1) else e
def ajs (s : CS) (b : Nat) : Nat := adr s 256 b
set_option maxRecDepth 100000 in
theorem aje (s : CS) : ∀ (n e : Nat), e ≤ 255 → 255 ≤ e + n → e ≤ adr s n e ∧ adr s n e ≤ 255 ∧ (∀ i, e < i → i ≤ adr s n e → s.getLsbD i = true) ∧ (adr s n e < 255 → s.getLsbD (adr s n e + 1) = false)
 | 0, e, h, hn => ⟨Nat.le_refl _, h, fun i h1 h2 => by simp only [adr] at h2; omega, fun h1 => by simp only [adr] at h1; omega⟩
 | n + 1, e, h, hn => by
  simp only [adr]
  by_cases hc : e < 255 ∧ s.getLsbD (e + 1) = true
  ·rw [if_pos hc]
   obtain ⟨h1, h2, h3, h4⟩ := aje s n (e + 1) (by omega) (by omega)
   refine ⟨by omega, h2, fun i hi1 hi2 => ?_, h4⟩
   by_cases he : i = e + 1
   ·subst he; exact hc.2
   ·exact h3 i (by omega) hi2
  ·rw [if_neg hc]
   refine ⟨Nat.le_refl _, h, fun i h1 h2 => by omega, fun h1 => ?_⟩
   cases hb : s.getLsbD (e + 1)
   ·rfl
   ·exact absurd ⟨h1, hb⟩ hc
set_option maxRecDepth 100000 in
theorem y7 {s : CS} {k e : Nat} (h1 : k ≤ e) (h2 : e ≤ 255) (h3 : ∀ i, k < i → i ≤ e → s.getLsbD i = true) (h4 : e < 255 → s.getLsbD (e + 1) = false) : ajs s k = e := by
 obtain ⟨r1, r2, r3, r4⟩ := aje s 256 k (by omega) (by omega)
 unfold ajs
 rcases Nat.lt_trichotomy (adr s 256 k) e with h | h | h
 ·have := r4 (by omega)
  rw [h3 _ (by omega) (by omega)] at this; cases this
 ·exact h
 ·have := h4 (by omega)
  rw [r3 _ (by omega) (by omega)] at this; cases this
def w5 (b e : Nat) : List UInt8 := m5 b inL ++ (if b + 1 < e then [45] else []) ++ (if b < e then m5 e inL else [])
def abq (s : CS) (c : Nat) : List UInt8 := if s.getLsbD c && (c == 0 || !s.getLsbD (c - 1)) then w5 c (ajs s c) else []
def d6 (s : CS) : Nat → List UInt8
 | 0 => []
 | k + 1 => d6 s k ++ abq s k
set_option maxRecDepth 100000 in
theorem ae7 {s : CS} {k : Nat} (h : s.getLsbD k = false) : d6 s (k + 1) = d6 s k := by simp [d6, abq, h]
set_option maxRecDepth 100000 in
theorem amw {s : CS} {k : Nat} : ∀ (n : Nat), (∀ i, k ≤ i → i < k + n → s.getLsbD i = true ∧ 0 < i ∧ s.getLsbD (i - 1) = true) → d6 s (k + n) = d6 s k
 | 0, _ => rfl
 | n + 1, h => by
  have ih := amw n fun i h1 h2 => h i h1 (by omega)
  obtain ⟨a, b, c⟩ := h (k + n) (by omega) (by omega)
  have hz : ((k + n) == 0) = false := by simpa using (show ¬ (k + n) = 0 by omega)
  rw [← Nat.add_assoc, d6, ih, abq, c, hz]
  simp
set_option maxRecDepth 100000 in
theorem ae6 (s : CS) (k e : Nat) (hb : s.getLsbD k = true) (hst : k = 0 ∨ s.getLsbD (k - 1) = false) (he : ajs s k = e) (hke : k ≤ e) (hr : ∀ i, k < i → i ≤ e → s.getLsbD i = true) : d6 s (e + 1) = d6 s k ++ w5 k e := by
 have h1 : d6 s (k + 1 + (e - k)) = d6 s (k + 1) := amw (e - k) fun i hi1 hi2 => by
  refine ⟨hr i (by omega) (by omega), by omega, ?_⟩
  by_cases h : i = k + 1
  ·subst h; exact hb
  ·exact hr (i - 1) (by omega) (by omega)
 rw [show k + 1 + (e - k) = e + 1 by omega] at h1
 rw [h1, d6, abq, he, hb]
 rcases hst with h | h
 ·subst h; simp
 ·simp [h]
set_option maxRecDepth 100000 in
theorem asg (b e : Nat) : (w5 b e).length ≤ 9 := by
 have h1 := l8 b inL
 have h2 := l8 e inL
 unfold w5
 by_cases c1 : b + 1 < e <;> by_cases c2 : b < e <;> simp [c1, c2] <;> omega
set_option maxRecDepth 100000 in
theorem q7 (s : CS) (k : Nat) : (d6 s k).length ≤ 9 * k := by
 induction k with
 | zero => simp [d6]
 | succ k ih =>
  have : (abq s k).length ≤ 9 := by
   unfold abq; split
   ·exact asg _ _
   ·simp
  simp only [d6, List.length_append]; omega
def x8 (s : CS) : List UInt8 :=
 if u7 s = 1 then m5 ((aa4 s 0).getD 0) spL
 else if 128 < u7 s then [91, 94] ++ d6 (~~~ s) 256 ++ [93] else [91] ++ d6 s 256 ++ [93]
set_option maxRecDepth 100000 in
theorem as5 (s : CS) (h : u7 s = 1) : aqh s 0 = .tuple #[.int .u8 ((aa4 s 0).getD 0 : Nat), .bool true] := by
 cases hn : aa4 s 0 with
 | none =>
  have : u7 s = 0 := by
   unfold u7
   rw [List.countP_eq_zero]
   intro i hi
   have := aj0 hn i (by omega) (List.mem_range.1 hi)
   simp [this]
  omega
 | some c => rw [aqh, hn]; rfl
set_option maxRecDepth 100000 in
set_option maxHeartbeats 1000000 in
theorem awb (s : CS) (h1 : u7 s = 1) : aht 86 #[.agg (o3 s)] (.string (bs (x8 s))) := by
 intro w hE
 have HS := Lib.hid (show x8 s = m5 ((aa4 s 0).getD 0) spB.data.toList by unfold x8; rw [if_pos h1]; rfl)
 have c1 := alq s
 rw [h1] at c1
 have C1 := Lib.hid c1
 have c2 := au4 s 0 (by omega) (by omega)
 rw [show (0 : Int).toNat = 0 from rfl, as5 s h1] at c2
 have C2 := Lib.hid c2
 have hlt : (aa4 s 0).getD 0 < 256 := by
  cases hn : aa4 s 0 with
  | none => simp
  | some c => exact (ak9 hn).2.1
 have C3 := Lib.hid (aak ((aa4 s 0).getD 0) hlt spB)
 clear c1 c2 h1
 generalize (aa4 s 0).getD 0 = n at *
 have H1 := Lib.hid (heap_alloc_new w (.cells (o3 s) 84))
 have hb1 : Below w.heap.size w (w.alloc (.cells (o3 s) 84)) := (Below.refl _ _).alloc (Nat.le_refl _) _
 have hE1 := hE.alloc (.cells (o3 s) 84)
 go_enter Tryd.func86, Tryd.ntmps86
 go_wp2_with (first | (with_reducible refine aa7 (d := 9) ?_) | fail)
 unfold Hid
 generalize w.alloc (.cells (o3 s) 84) = W1 at H1 hb1 hE1 ⊢
 have hl1 : w.heap.size < W1.heap.size := b6 H1.out
 refine o0 (d := 9) w.heap.size 84 H1.out (afb _) rfl ?_
 simp only [Act.put, List.setIfInBounds_toArray, List.set_cons_zero, List.set_cons_succ]
 go_wp2_with fail
 refine (C1.out W1).mono ?_
 rintro e W2 ⟨rfl, hv⟩
 have H2 := Lib.hid (blk hv H1.out hl1)
 have hb2 := hb1.trans (hv.mono hb1.size)
 have hE2 := hE1.below hv
 have hl2 : w.heap.size < W2.heap.size := b6 H2.out
 clear hv hb1 H1 hE1
 go_wp2_with (first | (with_reducible refine aa7 (d := 14) ?_) | fail)
 unfold Hid
 refine o0 (d := 14) w.heap.size 84 H2.out (afb _) rfl ?_
 simp only [Act.put, List.setIfInBounds_toArray, List.set_cons_zero, List.set_cons_succ]
 go_wp2_with fail
 refine (C2.out W2).mono ?_
 rintro e W3 ⟨rfl, hv⟩
 have hb3 := hb2.trans (hv.mono hb2.size)
 have hE3 := hE2.below hv
 go_wp2_with fail
 refine (C3.out W3 hE3).mono ?_
 rintro e W4 ⟨rfl, hv4⟩
 go_wp2
 go_ret
 exact ⟨by rw [HS.out]; rfl, hb3.trans (hv4.mono hb3.size)⟩
set_option maxRecDepth 100000 in
set_option maxHeartbeats 2000000 in
theorem avu (s : CS) (h1 : u7 s ≠ 1) : aht 86 #[.agg (o3 s)] (.string (bs (x8 s))) := by
 intro w hE
 have C1 := Lib.hid (alq s)
 have C2 := Lib.hid (apb s)
 have hcb : u7 s ≤ 256 := by
  have := List.countP_le_length (p := fun i => s.getLsbD i) (l := List.range 256)
  simpa [u7] using this
 have HS0 := Lib.hid (show x8 s = if 128 < u7 s then [91, 94] ++ d6 (~~~ s) 256 ++ [93] else [91] ++ d6 s 256 ++ [93] by unfold x8; rw [if_neg h1])
 have hn1 : ((u7 s : Int) == 1) = false := by simpa using (show ¬ ((u7 s : Int) = 1) by omega)
 clear h1
 generalize u7 s = n at *
 have H1 := Lib.hid (heap_alloc_new w (.cells (o3 s) 84))
 have hb1 : Below w.heap.size w (w.alloc (.cells (o3 s) 84)) := (Below.refl _ _).alloc (Nat.le_refl _) _
 have hE1 := hE.alloc (.cells (o3 s) 84)
 go_enter Tryd.func86, Tryd.ntmps86
 go_wp2_with (first | (with_reducible refine aa7 (d := 9) ?_) | fail)
 unfold Hid
 generalize w.alloc (.cells (o3 s) 84) = W1 at H1 hb1 hE1 ⊢
 have hl1 : w.heap.size < W1.heap.size := b6 H1.out
 refine o0 (d := 9) w.heap.size 84 H1.out (afb _) rfl ?_
 simp only [Act.put, List.setIfInBounds_toArray, List.set_cons_zero, List.set_cons_succ]
 go_wp2_with fail
 refine (C1.out W1).mono ?_
 rintro e0 W2 ⟨rfl, hv⟩
 have H2 := Lib.hid (blk hv H1.out hl1)
 have hb2 := hb1.trans (hv.mono hb1.size)
 have hE2 := hE1.below hv
 have hl2 : w.heap.size < W2.heap.size := b6 H2.out
 clear hv hb1 H1 hE1 C1
 by_cases h128 : 128 < n
 ·have HS := Lib.hid (HS0.out.trans (if_pos h128))
  clear HS0
  go_wp2_with (first | (with_reducible refine aa7 (d := 22) ?_) | fail)
  unfold Hid
  refine o0 (d := 22) w.heap.size 84 H2.out (afb _) rfl ?_
  simp only [Act.put, List.setIfInBounds_toArray, List.set_cons_zero, List.set_cons_succ]
  go_wp2_with fail
  refine (C2.out W2).mono ?_
  rintro e0 W3 ⟨rfl, hv⟩
  have H3 := Lib.hid (blk hv H2.out hl2)
  have hb3 := hb2.trans (hv.mono hb2.size)
  have hE3 := hE2.below hv
  have H4 := Lib.hid (aab (cs := o3 (~~~ s)) H3.out)
  have hb4 := below_setRow hb3 (Nat.le_refl _) (o3 (~~~ s))
  have hE4 : Esc (W3.setRow w.heap.size (o3 (~~~ s))) := by
   obtain ⟨te, fre, hx⟩ := hE3
   obtain ⟨te', fre', hx'⟩ := hE
   exact ⟨te, fre, ahr hx (by have := b6 hx'; omega)⟩
  clear H2 hb2 hE2 hl2 hb3 hE3 hv C2
  go_wp2_with (first | ((with_reducible refine akp (x := .tmp 1) (y := .tmp 23) (cs := o3 (~~~ s)) w.heap.size 84 H3.out (aka _ _) (afb _) (afn _) ?_ ?_ ?_); rfl; rfl) | fail)
  generalize W3.setRow w.heap.size (o3 (~~~ s)) = W4 at H4 hb4 hE4 ⊢
  clear H3
  generalize ~~~ s = S at *
  have h0 : (⟨#[91, 94]⟩ : ByteArray) = bs [91, 94] := rfl
  rw [h0]
  clear h0
  have hpre : ([91, 94] : List UInt8).length ≤ 2 := by decide
  generalize ([91, 94] : List UInt8) = pre at *
  go_loopw [6, 7] (fun out i wr => ∃ k : Nat, i = .int .i64 k ∧ k ≤ 256 ∧ out = .string (bs (pre ++ d6 S k)) ∧ wr.heap[w.heap.size]? = some (.cells (o3 S) 84 (0, 0)) ∧ Esc wr ∧ Below w.heap.size w wr ∧ (k = 0 ∨ k = 256 ∨ S.getLsbD (k - 1) = false ∨ S.getLsbD k = false))
   (fun _ i _ => 256 - (intOf i).toNat)
  case atStart => exact ⟨0, rfl, by omega, by simp [d6], H4.out, hE4, hb4, .inl rfl⟩
  case round =>
   obtain ⟨k, rfl, hk, rfl, hblk0, hEr, hbr, hst⟩ := hrel
   have H5 := Lib.hid hblk0; clear hblk0
   have hlr : w.heap.size < wr.heap.size := b6 H5.out
   clear H4 hb4 hE4
   by_cases hk6 : k < 256
   ·have CH := Lib.hid (aea S (k : Int) (by omega) (by omega))
    go_wp2_with (first | (with_reducible refine aa7 (d := 28) ?_) | fail)
    unfold Hid
    refine o0 (d := 28) w.heap.size 84 H5.out (afb _) rfl ?_
    simp only [Act.put, List.setIfInBounds_toArray, List.set_cons_zero, List.set_cons_succ]
    go_wp2_with fail
    refine (CH.out wr).mono ?_
    rintro e0 V1 ⟨rfl, hv⟩
    have H6 := Lib.hid (blk hv H5.out hlr)
    have hb6 := hbr.trans (hv.mono hbr.size)
    have hE6 := hEr.below hv
    have hl6 : w.heap.size < V1.heap.size := b6 H6.out
    clear hv hbr H5 hEr hlr CH
    rw [Int.toNat_natCast]
    by_cases hbit : S.getLsbD k = true
    ·rw [hbit]
     have hst' : k = 0 ∨ S.getLsbD (k - 1) = false := by
      rcases hst with h | h | h | h
      ·exact .inl h
      ·omega
      ·exact .inr h
      ·rw [h] at hbit; cases hbit
     go_wp2_with fail
     go_loopw [8] (fun i wr => ∃ e : Nat, i = .int .i64 e ∧ k ≤ e ∧ e ≤ 255 ∧ (∀ i, k < i → i ≤ e → S.getLsbD i = true) ∧ wr.heap[w.heap.size]? = some (.cells (o3 S) 84 (0, 0)) ∧ Esc wr ∧ Below w.heap.size w wr)
      (fun i _ => 255 - (intOf i).toNat)
     case atStart => exact ⟨k, rfl, Nat.le_refl _, by omega, fun i h1 h2 => by omega, H6.out, hE6, hb6⟩
     case round =>
      obtain ⟨e, rfl, hke, he, hrun, hblk1, hE7, hb7⟩ := hrel
      have H7 := Lib.hid hblk1; clear hblk1
      clear H6 hE6 hb6 hl6
      have hl7 : w.heap.size < wr.heap.size := b6 H7.out
      by_cases he5 : e < 255
      ·have CH := Lib.hid (aea S ((e : Int) + 1) (by omega) (by omega))
       rw [show ((e : Int) + 1).toNat = e + 1 by omega] at CH
       have hde : decide ((e : Int) < 255) = true := decide_eq_true (by omega)
       go_wp2_with (first | (with_reducible refine aa7 (d := 37) ?_) | fail)
       unfold Hid
       refine ael (d := 37) w.heap.size 84 H7.out (afb _) ?_ ?_ ?_
       rfl
       rfl
       simp only [Act.put, List.setIfInBounds_toArray, List.set_cons_zero, List.set_cons_succ]
       go_wp2_with fail
       refine (CH.out wr).mono ?_
       rintro e0 V2 ⟨rfl, hv⟩
       have H10 := Lib.hid (blk hv H7.out hl7)
       have hb10 := hb7.trans (hv.mono hb7.size)
       have hE10 := hE7.below hv
       have hl10 : w.heap.size < V2.heap.size := b6 H10.out
       clear hv hb7 H7 hE7 hl7 CH
       by_cases hb2 : S.getLsbD (e + 1) = true
       ·rw [hb2]
        go_wp2
        go_roundw
        case rel =>
         refine ⟨e + 1, by go_num, by omega, by omega, fun i h1 h2 => ?_, H10.out, hE10, hb10⟩
         by_cases hx : i = e + 1
         ·rw [hx]; exact hb2
         ·exact hrun i h1 (by omega)
        case measure => simp [intOf] <;> omega
       ·have hb2' : S.getLsbD (e + 1) = false := by simpa using hb2
        rw [hb2']
        have hend : e < 255 → S.getLsbD (e + 1) = false := fun _ => hb2'
        have H7 := H10
        have hb7 := hb10
        have hE7 := hE10
        have hl7 := hl10
        clear H10 hb10 hE10 hl10
        generalize V2 = wr at *
        have hre := y7 hke he hrun hend
        have hrunT := ae6 S k e hbit hst' hre hke hrun
        have CS1 := Lib.hid (aak k (by omega) inB)
        rw [show inB.data.toList = inL from rfl] at CS1
        have hq1 := l8 k inL
        have CS2 := Lib.hid (aak e (by omega) inB)
        rw [show inB.data.toList = inL from rfl] at CS2
        have hq2 := l8 e inL
        have hol : (pre ++ d6 S k).length ≤ 2 + 9 * k := by have := q7 S k; rw [List.length_append]; omega
        have hn' : e + 1 = 256 ∨ S.getLsbD (e + 1) = false := by
         by_cases h : e < 255
         ·exact .inr (hend h)
         ·exact .inl (by omega)
        have HN := Lib.hid hn'
        clear hn' hend hrun hre hst' hst
        have hT := (show pre ++ d6 S (e + 1) = pre ++ d6 S k ++ w5 k e by rw [hrunT, List.append_assoc])
        clear hrunT
        have HB := Lib.hid d4
        generalize pre ++ d6 S k = o at hol hT ⊢
        unfold w5 at hT
        generalize hq : m5 k inL = q1 at hq1 CS1 hT
        clear hq
        generalize hq : m5 e inL = q2 at hq2 CS2 hT
        clear hq
        have z1 : (bs o).size ≤ 2 + 9 * 256 := by rw [e9]; omega
        have z2 : (bs q1).size ≤ 4 := by rw [e9]; omega
        have z3 : (bs q2).size ≤ 4 := by rw [e9]; omega
        have z4 : (bs o ++ bs q1).size ≤ 2 + 9 * 256 + 4 := by rw [d4, e9, List.length_append]; omega
        clear hol hq1 hq2
        by_cases c1 : k + 1 < e
        ·have c2 : k < e := by omega
         rw [if_pos c1, if_pos c2] at hT
         have HT := Lib.hid hT; clear hT
         have z5 : (bs o ++ bs q1 ++ (⟨#[45]⟩ : ByteArray)).size ≤ 2 + 9 * 256 + 5 := by rw [show (⟨#[45]⟩ : ByteArray) = bs [45] from rfl, d4, d4, e9]; rw [d4, e9] at z4; simp only [List.length_append, List.length_cons, List.length_nil] at z4 ⊢; omega
         go_wp2_with fail
         refine (CS1.out wr hE7).mono ?_
         rintro e0 V3 ⟨rfl, hv⟩
         have H8 := Lib.hid (blk hv H7.out hl7)
         have hb8 := hb7.trans (hv.mono hb7.size)
         have hE8 := hE7.below hv
         have hl8 : w.heap.size < V3.heap.size := b6 H8.out
         clear hv hb7 hE7 H7 hl7 CS1
         go_wp2_with fail
         refine (CS2.out V3 hE8).mono ?_
         rintro e0 V4 ⟨rfl, hv⟩
         have H9 := Lib.hid (blk hv H8.out hl8)
         have hb9 := hb8.trans (hv.mono hb8.size)
         have hE9 := hE8.below hv
         clear hv hb8 hE8 H8 hl8 CS2
         go_wp2
         go_roundw
         case rel => exact ⟨e + 1, by go_num, by omega, by rw [HT.out]; show Value.string (bs o ++ bs q1 ++ bs [45] ++ bs q2) = _; simp only [HB.out, List.append_assoc], H9.out, hE9, hb9, .inr (HN.out.elim .inl (fun x => .inr (.inr x)))⟩
         case measure => simp [intOf] <;> omega
        ·by_cases c2 : k < e
         ·rw [if_neg c1, if_pos c2, List.append_nil] at hT
          have HT := Lib.hid hT; clear hT
          go_wp2_with fail
          refine (CS1.out wr hE7).mono ?_
          rintro e0 V3 ⟨rfl, hv⟩
          have H8 := Lib.hid (blk hv H7.out hl7)
          have hb8 := hb7.trans (hv.mono hb7.size)
          have hE8 := hE7.below hv
          have hl8 : w.heap.size < V3.heap.size := b6 H8.out
          clear hv hb7 hE7 H7 hl7 CS1
          go_wp2_with fail
          refine (CS2.out V3 hE8).mono ?_
          rintro e0 V4 ⟨rfl, hv⟩
          have H9 := Lib.hid (blk hv H8.out hl8)
          have hb9 := hb8.trans (hv.mono hb8.size)
          have hE9 := hE8.below hv
          clear hv hb8 hE8 H8 hl8 CS2
          go_wp2
          go_roundw
          case rel => exact ⟨e + 1, by go_num, by omega, by rw [HT.out]; show Value.string (bs o ++ bs q1 ++ bs q2) = _; simp only [HB.out, List.append_assoc], H9.out, hE9, hb9, .inr (HN.out.elim .inl (fun x => .inr (.inr x)))⟩
          case measure => simp [intOf] <;> omega
         ·rw [if_neg c1, if_neg c2, List.append_nil, List.append_nil] at hT
          have HT := Lib.hid hT; clear hT
          clear CS2
          go_wp2_with fail
          refine (CS1.out wr hE7).mono ?_
          rintro e0 V3 ⟨rfl, hv⟩
          have H8 := Lib.hid (blk hv H7.out hl7)
          have hb8 := hb7.trans (hv.mono hb7.size)
          have hE8 := hE7.below hv
          have hl8 : w.heap.size < V3.heap.size := b6 H8.out
          clear hv hb7 hE7 H7 hl7 CS1
          go_wp2
          go_roundw
          case rel => exact ⟨e + 1, by go_num, by omega, by rw [HT.out]; show Value.string (bs o ++ bs q1) = _; simp only [HB.out], H8.out, hE8, hb8, .inr (HN.out.elim .inl (fun x => .inr (.inr x)))⟩
          case measure => simp [intOf] <;> omega
      ·have hend : e < 255 → S.getLsbD (e + 1) = false := fun h => absurd h he5
       have hre := y7 hke he hrun hend
       have hrunT := ae6 S k e hbit hst' hre hke hrun
       have CS1 := Lib.hid (aak k (by omega) inB)
       rw [show inB.data.toList = inL from rfl] at CS1
       have hq1 := l8 k inL
       have CS2 := Lib.hid (aak e (by omega) inB)
       rw [show inB.data.toList = inL from rfl] at CS2
       have hq2 := l8 e inL
       have hol : (pre ++ d6 S k).length ≤ 2 + 9 * k := by have := q7 S k; rw [List.length_append]; omega
       have hn' : e + 1 = 256 ∨ S.getLsbD (e + 1) = false := by
        by_cases h : e < 255
        ·exact .inr (hend h)
        ·exact .inl (by omega)
       have HN := Lib.hid hn'
       clear hn' hend hrun hre hst' hst
       have hT := (show pre ++ d6 S (e + 1) = pre ++ d6 S k ++ w5 k e by rw [hrunT, List.append_assoc])
       clear hrunT
       have HB := Lib.hid d4
       generalize pre ++ d6 S k = o at hol hT ⊢
       unfold w5 at hT
       generalize hq : m5 k inL = q1 at hq1 CS1 hT
       clear hq
       generalize hq : m5 e inL = q2 at hq2 CS2 hT
       clear hq
       have z1 : (bs o).size ≤ 2 + 9 * 256 := by rw [e9]; omega
       have z2 : (bs q1).size ≤ 4 := by rw [e9]; omega
       have z3 : (bs q2).size ≤ 4 := by rw [e9]; omega
       have z4 : (bs o ++ bs q1).size ≤ 2 + 9 * 256 + 4 := by rw [d4, e9, List.length_append]; omega
       clear hol hq1 hq2
       by_cases c1 : k + 1 < e
       ·have c2 : k < e := by omega
        rw [if_pos c1, if_pos c2] at hT
        have HT := Lib.hid hT; clear hT
        have z5 : (bs o ++ bs q1 ++ (⟨#[45]⟩ : ByteArray)).size ≤ 2 + 9 * 256 + 5 := by rw [show (⟨#[45]⟩ : ByteArray) = bs [45] from rfl, d4, d4, e9]; rw [d4, e9] at z4; simp only [List.length_append, List.length_cons, List.length_nil] at z4 ⊢; omega
        go_wp2_with fail
        refine (CS1.out wr hE7).mono ?_
        rintro e0 V3 ⟨rfl, hv⟩
        have H8 := Lib.hid (blk hv H7.out hl7)
        have hb8 := hb7.trans (hv.mono hb7.size)
        have hE8 := hE7.below hv
        have hl8 : w.heap.size < V3.heap.size := b6 H8.out
        clear hv hb7 hE7 H7 hl7 CS1
        go_wp2_with fail
        refine (CS2.out V3 hE8).mono ?_
        rintro e0 V4 ⟨rfl, hv⟩
        have H9 := Lib.hid (blk hv H8.out hl8)
        have hb9 := hb8.trans (hv.mono hb8.size)
        have hE9 := hE8.below hv
        clear hv hb8 hE8 H8 hl8 CS2
        go_wp2
        go_roundw
        case rel => exact ⟨e + 1, by go_num, by omega, by rw [HT.out]; show Value.string (bs o ++ bs q1 ++ bs [45] ++ bs q2) = _; simp only [HB.out, List.append_assoc], H9.out, hE9, hb9, .inr (HN.out.elim .inl (fun x => .inr (.inr x)))⟩
        case measure => simp [intOf] <;> omega
       ·by_cases c2 : k < e
        ·rw [if_neg c1, if_pos c2, List.append_nil] at hT
         have HT := Lib.hid hT; clear hT
         go_wp2_with fail
         refine (CS1.out wr hE7).mono ?_
         rintro e0 V3 ⟨rfl, hv⟩
         have H8 := Lib.hid (blk hv H7.out hl7)
         have hb8 := hb7.trans (hv.mono hb7.size)
         have hE8 := hE7.below hv
         have hl8 : w.heap.size < V3.heap.size := b6 H8.out
         clear hv hb7 hE7 H7 hl7 CS1
         go_wp2_with fail
         refine (CS2.out V3 hE8).mono ?_
         rintro e0 V4 ⟨rfl, hv⟩
         have H9 := Lib.hid (blk hv H8.out hl8)
         have hb9 := hb8.trans (hv.mono hb8.size)
         have hE9 := hE8.below hv
         clear hv hb8 hE8 H8 hl8 CS2
         go_wp2
         go_roundw
         case rel => exact ⟨e + 1, by go_num, by omega, by rw [HT.out]; show Value.string (bs o ++ bs q1 ++ bs q2) = _; simp only [HB.out, List.append_assoc], H9.out, hE9, hb9, .inr (HN.out.elim .inl (fun x => .inr (.inr x)))⟩
         case measure => simp [intOf] <;> omega
        ·rw [if_neg c1, if_neg c2, List.append_nil, List.append_nil] at hT
         have HT := Lib.hid hT; clear hT
         clear CS2
         go_wp2_with fail
         refine (CS1.out wr hE7).mono ?_
         rintro e0 V3 ⟨rfl, hv⟩
         have H8 := Lib.hid (blk hv H7.out hl7)
         have hb8 := hb7.trans (hv.mono hb7.size)
         have hE8 := hE7.below hv
         have hl8 : w.heap.size < V3.heap.size := b6 H8.out
         clear hv hb7 hE7 H7 hl7 CS1
         go_wp2
         go_roundw
         case rel => exact ⟨e + 1, by go_num, by omega, by rw [HT.out]; show Value.string (bs o ++ bs q1) = _; simp only [HB.out], H8.out, hE8, hb8, .inr (HN.out.elim .inl (fun x => .inr (.inr x)))⟩
         case measure => simp [intOf] <;> omega
    ·have hbit' : S.getLsbD k = false := by simpa using hbit
     rw [hbit']
     go_wp2
     go_roundw
     case rel => exact ⟨k + 1, by go_num, by omega, by rw [ae7 hbit'], H6.out, hE6, hb6, .inr (.inr (.inl (by rw [Nat.add_sub_cancel]; exact hbit')))⟩
     case measure => simp [intOf] <;> omega
   ·have hk0 : k = 256 := by omega
    subst hk0
    have hol : (pre ++ d6 S 256).length ≤ 2 + 9 * 256 := by have := q7 S 256; rw [List.length_append]; omega
    have HB := Lib.hid d4
    generalize pre ++ d6 S 256 = o at hol HS ⊢
    have z1 : (bs o).size ≤ 2 + 9 * 256 := by rw [e9]; omega
    go_wp2
    go_ret
    exact ⟨by rw [HS.out, ← HB.out]; rfl, hbr⟩
 ·have HS := Lib.hid (HS0.out.trans (if_neg h128))
  clear HS0
  go_wp2_with fail
  have h0 : (⟨#[91]⟩ : ByteArray) = bs [91] := rfl
  rw [h0]
  clear h0
  have hpre : ([91] : List UInt8).length ≤ 2 := by decide
  generalize ([91] : List UInt8) = pre at *
  clear C2
  obtain ⟨S, hSs⟩ : ∃ S, S = s := ⟨s, rfl⟩
  rw [show d6 s 256 = d6 S 256 by rw [hSs]] at HS
  rw [← hSs] at H2
  clear hSs
  have H4 := H2
  have hb4 := hb2
  have hE4 := hE2
  clear H2 hb2 hE2
  generalize W2 = W4 at *
  go_loopw [6, 7] (fun out i wr => ∃ k : Nat, i = .int .i64 k ∧ k ≤ 256 ∧ out = .string (bs (pre ++ d6 S k)) ∧ wr.heap[w.heap.size]? = some (.cells (o3 S) 84 (0, 0)) ∧ Esc wr ∧ Below w.heap.size w wr ∧ (k = 0 ∨ k = 256 ∨ S.getLsbD (k - 1) = false ∨ S.getLsbD k = false))
   (fun _ i _ => 256 - (intOf i).toNat)
  case atStart => exact ⟨0, rfl, by omega, by simp [d6], H4.out, hE4, hb4, .inl rfl⟩
  case round =>
   obtain ⟨k, rfl, hk, rfl, hblk0, hEr, hbr, hst⟩ := hrel
   have H5 := Lib.hid hblk0; clear hblk0
   have hlr : w.heap.size < wr.heap.size := b6 H5.out
   clear H4 hb4 hE4
   by_cases hk6 : k < 256
   ·have CH := Lib.hid (aea S (k : Int) (by omega) (by omega))
    go_wp2_with (first | (with_reducible refine aa7 (d := 28) ?_) | fail)
    unfold Hid
    refine o0 (d := 28) w.heap.size 84 H5.out (afb _) rfl ?_
    simp only [Act.put, List.setIfInBounds_toArray, List.set_cons_zero, List.set_cons_succ]
    go_wp2_with fail
    refine (CH.out wr).mono ?_
    rintro e0 V1 ⟨rfl, hv⟩
    have H6 := Lib.hid (blk hv H5.out hlr)
    have hb6 := hbr.trans (hv.mono hbr.size)
    have hE6 := hEr.below hv
    have hl6 : w.heap.size < V1.heap.size := b6 H6.out
    clear hv hbr H5 hEr hlr CH
    rw [Int.toNat_natCast]
    by_cases hbit : S.getLsbD k = true
    ·rw [hbit]
     have hst' : k = 0 ∨ S.getLsbD (k - 1) = false := by
      rcases hst with h | h | h | h
      ·exact .inl h
      ·omega
      ·exact .inr h
      ·rw [h] at hbit; cases hbit
     go_wp2_with fail
     go_loopw [8] (fun i wr => ∃ e : Nat, i = .int .i64 e ∧ k ≤ e ∧ e ≤ 255 ∧ (∀ i, k < i → i ≤ e → S.getLsbD i = true) ∧ wr.heap[w.heap.size]? = some (.cells (o3 S) 84 (0, 0)) ∧ Esc wr ∧ Below w.heap.size w wr)
      (fun i _ => 255 - (intOf i).toNat)
     case atStart => exact ⟨k, rfl, Nat.le_refl _, by omega, fun i h1 h2 => by omega, H6.out, hE6, hb6⟩
     case round =>
      obtain ⟨e, rfl, hke, he, hrun, hblk1, hE7, hb7⟩ := hrel
      have H7 := Lib.hid hblk1; clear hblk1
      clear H6 hE6 hb6 hl6
      have hl7 : w.heap.size < wr.heap.size := b6 H7.out
      by_cases he5 : e < 255
      ·have CH := Lib.hid (aea S ((e : Int) + 1) (by omega) (by omega))
       rw [show ((e : Int) + 1).toNat = e + 1 by omega] at CH
       have hde : decide ((e : Int) < 255) = true := decide_eq_true (by omega)
       go_wp2_with (first | (with_reducible refine aa7 (d := 37) ?_) | fail)
       unfold Hid
       refine ael (d := 37) w.heap.size 84 H7.out (afb _) ?_ ?_ ?_
       rfl
       rfl
       simp only [Act.put, List.setIfInBounds_toArray, List.set_cons_zero, List.set_cons_succ]
       go_wp2_with fail
       refine (CH.out wr).mono ?_
       rintro e0 V2 ⟨rfl, hv⟩
       have H10 := Lib.hid (blk hv H7.out hl7)
       have hb10 := hb7.trans (hv.mono hb7.size)
       have hE10 := hE7.below hv
       have hl10 : w.heap.size < V2.heap.size := b6 H10.out
       clear hv hb7 H7 hE7 hl7 CH
       by_cases hb2 : S.getLsbD (e + 1) = true
       ·rw [hb2]
        go_wp2
        go_roundw
        case rel =>
         refine ⟨e + 1, by go_num, by omega, by omega, fun i h1 h2 => ?_, H10.out, hE10, hb10⟩
         by_cases hx : i = e + 1
         ·rw [hx]; exact hb2
         ·exact hrun i h1 (by omega)
        case measure => simp [intOf] <;> omega
       ·have hb2' : S.getLsbD (e + 1) = false := by simpa using hb2
        rw [hb2']
        have hend : e < 255 → S.getLsbD (e + 1) = false := fun _ => hb2'
        have H7 := H10
        have hb7 := hb10
        have hE7 := hE10
        have hl7 := hl10
        clear H10 hb10 hE10 hl10
        generalize V2 = wr at *
        have hre := y7 hke he hrun hend
        have hrunT := ae6 S k e hbit hst' hre hke hrun
        have CS1 := Lib.hid (aak k (by omega) inB)
        rw [show inB.data.toList = inL from rfl] at CS1
        have hq1 := l8 k inL
        have CS2 := Lib.hid (aak e (by omega) inB)
        rw [show inB.data.toList = inL from rfl] at CS2
        have hq2 := l8 e inL
        have hol : (pre ++ d6 S k).length ≤ 2 + 9 * k := by have := q7 S k; rw [List.length_append]; omega
        have hn' : e + 1 = 256 ∨ S.getLsbD (e + 1) = false := by
         by_cases h : e < 255
         ·exact .inr (hend h)
         ·exact .inl (by omega)
        have HN := Lib.hid hn'
        clear hn' hend hrun hre hst' hst
        have hT := (show pre ++ d6 S (e + 1) = pre ++ d6 S k ++ w5 k e by rw [hrunT, List.append_assoc])
        clear hrunT
        have HB := Lib.hid d4
        generalize pre ++ d6 S k = o at hol hT ⊢
        unfold w5 at hT
        generalize hq : m5 k inL = q1 at hq1 CS1 hT
        clear hq
        generalize hq : m5 e inL = q2 at hq2 CS2 hT
        clear hq
        have z1 : (bs o).size ≤ 2 + 9 * 256 := by rw [e9]; omega
        have z2 : (bs q1).size ≤ 4 := by rw [e9]; omega
        have z3 : (bs q2).size ≤ 4 := by rw [e9]; omega
        have z4 : (bs o ++ bs q1).size ≤ 2 + 9 * 256 + 4 := by rw [d4, e9, List.length_append]; omega
        clear hol hq1 hq2
        by_cases c1 : k + 1 < e
        ·have c2 : k < e := by omega
         rw [if_pos c1, if_pos c2] at hT
         have HT := Lib.hid hT; clear hT
         have z5 : (bs o ++ bs q1 ++ (⟨#[45]⟩ : ByteArray)).size ≤ 2 + 9 * 256 + 5 := by rw [show (⟨#[45]⟩ : ByteArray) = bs [45] from rfl, d4, d4, e9]; rw [d4, e9] at z4; simp only [List.length_append, List.length_cons, List.length_nil] at z4 ⊢; omega
         go_wp2_with fail
         refine (CS1.out wr hE7).mono ?_
         rintro e0 V3 ⟨rfl, hv⟩
         have H8 := Lib.hid (blk hv H7.out hl7)
         have hb8 := hb7.trans (hv.mono hb7.size)
         have hE8 := hE7.below hv
         have hl8 : w.heap.size < V3.heap.size := b6 H8.out
         clear hv hb7 hE7 H7 hl7 CS1
         go_wp2_with fail
         refine (CS2.out V3 hE8).mono ?_
         rintro e0 V4 ⟨rfl, hv⟩
         have H9 := Lib.hid (blk hv H8.out hl8)
         have hb9 := hb8.trans (hv.mono hb8.size)
         have hE9 := hE8.below hv
         clear hv hb8 hE8 H8 hl8 CS2
         go_wp2
         go_roundw
         case rel => exact ⟨e + 1, by go_num, by omega, by rw [HT.out]; show Value.string (bs o ++ bs q1 ++ bs [45] ++ bs q2) = _; simp only [HB.out, List.append_assoc], H9.out, hE9, hb9, .inr (HN.out.elim .inl (fun x => .inr (.inr x)))⟩
         case measure => simp [intOf] <;> omega
        ·by_cases c2 : k < e
         ·rw [if_neg c1, if_pos c2, List.append_nil] at hT
          have HT := Lib.hid hT; clear hT
          go_wp2_with fail
          refine (CS1.out wr hE7).mono ?_
          rintro e0 V3 ⟨rfl, hv⟩
          have H8 := Lib.hid (blk hv H7.out hl7)
          have hb8 := hb7.trans (hv.mono hb7.size)
          have hE8 := hE7.below hv
          have hl8 : w.heap.size < V3.heap.size := b6 H8.out
          clear hv hb7 hE7 H7 hl7 CS1
          go_wp2_with fail
          refine (CS2.out V3 hE8).mono ?_
          rintro e0 V4 ⟨rfl, hv⟩
          have H9 := Lib.hid (blk hv H8.out hl8)
          have hb9 := hb8.trans (hv.mono hb8.size)
          have hE9 := hE8.below hv
          clear hv hb8 hE8 H8 hl8 CS2
          go_wp2
          go_roundw
          case rel => exact ⟨e + 1, by go_num, by omega, by rw [HT.out]; show Value.string (bs o ++ bs q1 ++ bs q2) = _; simp only [HB.out, List.append_assoc], H9.out, hE9, hb9, .inr (HN.out.elim .inl (fun x => .inr (.inr x)))⟩
          case measure => simp [intOf] <;> omega
         ·rw [if_neg c1, if_neg c2, List.append_nil, List.append_nil] at hT
          have HT := Lib.hid hT; clear hT
          clear CS2
          go_wp2_with fail
          refine (CS1.out wr hE7).mono ?_
          rintro e0 V3 ⟨rfl, hv⟩
          have H8 := Lib.hid (blk hv H7.out hl7)
          have hb8 := hb7.trans (hv.mono hb7.size)
          have hE8 := hE7.below hv
          have hl8 : w.heap.size < V3.heap.size := b6 H8.out
          clear hv hb7 hE7 H7 hl7 CS1
          go_wp2
          go_roundw
          case rel => exact ⟨e + 1, by go_num, by omega, by rw [HT.out]; show Value.string (bs o ++ bs q1) = _; simp only [HB.out], H8.out, hE8, hb8, .inr (HN.out.elim .inl (fun x => .inr (.inr x)))⟩
          case measure => simp [intOf] <;> omega
      ·have hend : e < 255 → S.getLsbD (e + 1) = false := fun h => absurd h he5
       have hre := y7 hke he hrun hend
       have hrunT := ae6 S k e hbit hst' hre hke hrun
       have CS1 := Lib.hid (aak k (by omega) inB)
       rw [show inB.data.toList = inL from rfl] at CS1
       have hq1 := l8 k inL
       have CS2 := Lib.hid (aak e (by omega) inB)
       rw [show inB.data.toList = inL from rfl] at CS2
       have hq2 := l8 e inL
       have hol : (pre ++ d6 S k).length ≤ 2 + 9 * k := by have := q7 S k; rw [List.length_append]; omega
       have hn' : e + 1 = 256 ∨ S.getLsbD (e + 1) = false := by
        by_cases h : e < 255
        ·exact .inr (hend h)
        ·exact .inl (by omega)
       have HN := Lib.hid hn'
       clear hn' hend hrun hre hst' hst
       have hT := (show pre ++ d6 S (e + 1) = pre ++ d6 S k ++ w5 k e by rw [hrunT, List.append_assoc])
       clear hrunT
       have HB := Lib.hid d4
       generalize pre ++ d6 S k = o at hol hT ⊢
       unfold w5 at hT
       generalize hq : m5 k inL = q1 at hq1 CS1 hT
       clear hq
       generalize hq : m5 e inL = q2 at hq2 CS2 hT
       clear hq
       have z1 : (bs o).size ≤ 2 + 9 * 256 := by rw [e9]; omega
       have z2 : (bs q1).size ≤ 4 := by rw [e9]; omega
       have z3 : (bs q2).size ≤ 4 := by rw [e9]; omega
       have z4 : (bs o ++ bs q1).size ≤ 2 + 9 * 256 + 4 := by rw [d4, e9, List.length_append]; omega
       clear hol hq1 hq2
       by_cases c1 : k + 1 < e
       ·have c2 : k < e := by omega
        rw [if_pos c1, if_pos c2] at hT
        have HT := Lib.hid hT; clear hT
        have z5 : (bs o ++ bs q1 ++ (⟨#[45]⟩ : ByteArray)).size ≤ 2 + 9 * 256 + 5 := by rw [show (⟨#[45]⟩ : ByteArray) = bs [45] from rfl, d4, d4, e9]; rw [d4, e9] at z4; simp only [List.length_append, List.length_cons, List.length_nil] at z4 ⊢; omega
        go_wp2_with fail
        refine (CS1.out wr hE7).mono ?_
        rintro e0 V3 ⟨rfl, hv⟩
        have H8 := Lib.hid (blk hv H7.out hl7)
        have hb8 := hb7.trans (hv.mono hb7.size)
        have hE8 := hE7.below hv
        have hl8 : w.heap.size < V3.heap.size := b6 H8.out
        clear hv hb7 hE7 H7 hl7 CS1
        go_wp2_with fail
        refine (CS2.out V3 hE8).mono ?_
        rintro e0 V4 ⟨rfl, hv⟩
        have H9 := Lib.hid (blk hv H8.out hl8)
        have hb9 := hb8.trans (hv.mono hb8.size)
        have hE9 := hE8.below hv
        clear hv hb8 hE8 H8 hl8 CS2
        go_wp2
        go_roundw
        case rel => exact ⟨e + 1, by go_num, by omega, by rw [HT.out]; show Value.string (bs o ++ bs q1 ++ bs [45] ++ bs q2) = _; simp only [HB.out, List.append_assoc], H9.out, hE9, hb9, .inr (HN.out.elim .inl (fun x => .inr (.inr x)))⟩
        case measure => simp [intOf] <;> omega
       ·by_cases c2 : k < e
        ·rw [if_neg c1, if_pos c2, List.append_nil] at hT
         have HT := Lib.hid hT; clear hT
         go_wp2_with fail
         refine (CS1.out wr hE7).mono ?_
         rintro e0 V3 ⟨rfl, hv⟩
         have H8 := Lib.hid (blk hv H7.out hl7)
         have hb8 := hb7.trans (hv.mono hb7.size)
         have hE8 := hE7.below hv
         have hl8 : w.heap.size < V3.heap.size := b6 H8.out
         clear hv hb7 hE7 H7 hl7 CS1
         go_wp2_with fail
         refine (CS2.out V3 hE8).mono ?_
         rintro e0 V4 ⟨rfl, hv⟩
         have H9 := Lib.hid (blk hv H8.out hl8)
         have hb9 := hb8.trans (hv.mono hb8.size)
         have hE9 := hE8.below hv
         clear hv hb8 hE8 H8 hl8 CS2
         go_wp2
         go_roundw
         case rel => exact ⟨e + 1, by go_num, by omega, by rw [HT.out]; show Value.string (bs o ++ bs q1 ++ bs q2) = _; simp only [HB.out, List.append_assoc], H9.out, hE9, hb9, .inr (HN.out.elim .inl (fun x => .inr (.inr x)))⟩
         case measure => simp [intOf] <;> omega
        ·rw [if_neg c1, if_neg c2, List.append_nil, List.append_nil] at hT
         have HT := Lib.hid hT; clear hT
         clear CS2
         go_wp2_with fail
         refine (CS1.out wr hE7).mono ?_
         rintro e0 V3 ⟨rfl, hv⟩
         have H8 := Lib.hid (blk hv H7.out hl7)
         have hb8 := hb7.trans (hv.mono hb7.size)
         have hE8 := hE7.below hv
         have hl8 : w.heap.size < V3.heap.size := b6 H8.out
         clear hv hb7 hE7 H7 hl7 CS1
         go_wp2
         go_roundw
         case rel => exact ⟨e + 1, by go_num, by omega, by rw [HT.out]; show Value.string (bs o ++ bs q1) = _; simp only [HB.out], H8.out, hE8, hb8, .inr (HN.out.elim .inl (fun x => .inr (.inr x)))⟩
         case measure => simp [intOf] <;> omega
    ·have hbit' : S.getLsbD k = false := by simpa using hbit
     rw [hbit']
     go_wp2
     go_roundw
     case rel => exact ⟨k + 1, by go_num, by omega, by rw [ae7 hbit'], H6.out, hE6, hb6, .inr (.inr (.inl (by rw [Nat.add_sub_cancel]; exact hbit')))⟩
     case measure => simp [intOf] <;> omega
   ·have hk0 : k = 256 := by omega
    subst hk0
    have hol : (pre ++ d6 S 256).length ≤ 2 + 9 * 256 := by have := q7 S 256; rw [List.length_append]; omega
    have HB := Lib.hid d4
    generalize pre ++ d6 S 256 = o at hol HS ⊢
    have z1 : (bs o).size ≤ 2 + 9 * 256 := by rw [e9]; omega
    go_wp2
    go_ret
    exact ⟨by rw [HS.out, ← HB.out]; rfl, hbr⟩
end Go.Proofs.YtohnchdnkbadaaaDoor
namespace Go.Proofs.YtohnchdnkbadaaaDoor
open Go Go.RowKit
set_option maxRecDepth 100000 in
theorem amd (l : List UInt8) (c : UInt8) (k : Nat) (h : k < l.length) : (l.drop k).contains c = ((l[k]! == c) || (l.drop (k + 1)).contains c) := by
 rw [List.drop_eq_getElem_cons h, List.contains_cons, getElem!_pos l k h, Bool.beq_comm]
set_option maxRecDepth 100000 in
theorem awg (l : List UInt8) (b : Nat) (hb : b < 256) (hsz : l.length < 1000) : aek Tryd.prog 148 #[.string (bs l), .int .u8 b] (.bool (l.contains b.toUInt8)) := by
 intro w
 have hz := e9 l
 go_enter Tryd.func148, Tryd.ntmps148
 go_wp2_with fail
 go_loopw [4, 5] (fun r i wr => ∃ k : Nat, r = .bool false ∧ i = .int .i64 k ∧ k ≤ l.length ∧ l.contains b.toUInt8 = (l.drop k).contains b.toUInt8 ∧ wr = w)
  (fun _ i _ => l.length - (intOf i).toNat)
 case atStart => exact ⟨0, rfl, rfl, by omega, by simp, rfl⟩
 case round =>
  obtain ⟨k, rfl, rfl, hk, hc, rfl⟩ := hrel
  by_cases hlt : k < l.length
  ·have hd := amd l b.toUInt8 k hlt
   have hg : ∀ h, (bs l)[k]'h = l[k]! := fun h => by rw [getElem!_pos l k hlt]; rfl
   have hgb : ((l[k]!.toNat : Int) == (b : Int)) = (l[k]! == b.toUInt8) := by
    generalize l[k]! = x
    have hbt : b.toUInt8.toNat = b := by simp; omega
    rw [Bool.eq_iff_iff]
    simp only [beq_iff_eq]
    constructor
    ·intro h; apply UInt8.toNat_inj.1; omega
    ·intro h; rw [h, hbt]
   have HG := Lib.hid hg
   have HB := Lib.hid hgb
   have HC := Lib.hid hc
   have HD := Lib.hid hd
   clear hg hgb hc hd
   go_wp2
   ·rename_i h
    rw [HG.out, HB.out] at h
    go_ret
    exact ⟨by rw [HC.out, HD.out, h]; rfl, Below.refl _ _⟩
   ·rename_i h
    rw [HG.out, HB.out] at h
    go_roundw
    case rel => exact ⟨k + 1, rfl, by go_num, by omega, by rw [HC.out, HD.out, h, Bool.false_or], trivial⟩
    case measure => simp [intOf] <;> omega
  ·have he : k = l.length := by omega
   have HC := Lib.hid (show l.contains b.toUInt8 = false by rw [hc, he, List.drop_length]; rfl)
   clear hc
   go_wp2
   go_ret
   exact ⟨by rw [HC.out]; rfl, Below.refl _ _⟩
set_option maxRecDepth 100000 in
theorem am6 (f : Nat → Bool) : aek Tryd.prog 127 #[.agg (x7 f)] (.int .i64 ((List.range 256).countP f)) := by
 intro w
 have h0 := heap_alloc_new w (.cells (x7 f) 100)
 have H0 := Lib.hid h0; clear h0
 have hb0 : Below w.heap.size w (w.alloc (.cells (x7 f) 100)) := (Below.refl _ _).alloc (Nat.le_refl _) _
 go_enter Tryd.func127, Tryd.ntmps127
 go_wp2_with fail
 generalize w.alloc (.cells (x7 f) 100) = W at H0 hb0 ⊢
 go_loopw [3, 4] (fun n i wr => ∃ k : Nat, i = .int .i64 k ∧ k ≤ 256 ∧ n = .int .i64 ((List.range k).countP f) ∧ wr = W)
  (fun _ i _ => 256 - (intOf i).toNat)
 case atStart => exact ⟨0, rfl, by omega, rfl, rfl⟩
 case round =>
  obtain ⟨k, rfl, hk, rfl, rfl⟩ := hrel
  have hle : (List.range k).countP f ≤ k := by have := List.countP_le_length (p := f) (l := List.range k); simpa using this
  by_cases hlt : k < 256
  ·have hcell : wr.cell? ⟨w.heap.size, k, none⟩ = some (.bool (f k)) := (cell_of_row _ _ k _ _ _ H0.out).trans (aay f k hlt)
   have HC := Lib.hid (show (List.range (k + 1)).countP f = (List.range k).countP f + (if f k = true then 1 else 0) by rw [List.range_succ, List.countP_append]; simp [List.countP_cons])
   generalize (List.range k).countP f = c at HC hle ⊢
   cases hf : f k
   ·rw [hf] at hcell HC
    clear hf
    go_wp2
    go_roundw
    case rel => exact ⟨k + 1, by go_num, by omega, by rw [HC.out]; rfl, trivial⟩
    case measure => simp [intOf] <;> omega
   ·rw [hf] at hcell HC
    clear hf
    go_wp2
    go_roundw
    case rel => exact ⟨k + 1, by go_num, by omega, by rw [HC.out]; go_num, trivial⟩
    case measure => simp [intOf] <;> omega
  ·have he : k = 256 := by omega
   subst he
   generalize hc : (List.range 256).countP f = c at hle ⊢
   have HC := Lib.hid hc; clear hc
   go_wp2
   go_ret
   exact ⟨by rw [HC.out]; rfl, hb0⟩
def aq1 (b : Nat) (c : Bool) : List UInt8 :=
 match aqp b with
 | some x => [92, x]
 | none => if b < 32 ∨ 126 < b then [92, 120, ae0 (b / 16), ae0 (b % 16)] else if c then [92, b.toUInt8] else [b.toUInt8]
set_option maxRecDepth 100000 in
theorem ajb (b : Nat) (hb : b < 256) : aek Tryd.prog 119 #[.int .u8 b] (.bool (spL.contains b.toUInt8)) := by
 intro w
 have C := Lib.hid (awg spL b hb (by decide))
 go_enter Tryd.func119, Tryd.ntmps119
 go_wp2_with fail
 refine (C.out w).mono ?_
 rintro e W ⟨rfl, hv⟩
 generalize hr : spL.contains b.toUInt8 = r
 have HR := Lib.hid hr; clear hr
 go_wp2
 go_ret
 exact ⟨by rw [HR.out]; rfl, hv⟩
set_option maxRecDepth 100000 in
theorem v4 (b : Nat) (hb : b < 256) : aek Tryd.prog 118 #[.int .u8 b] (.bool (inL.contains b.toUInt8)) := by
 intro w
 have C := Lib.hid (awg inL b hb (by decide))
 go_enter Tryd.func118, Tryd.ntmps118
 go_wp2_with fail
 refine (C.out w).mono ?_
 rintro e W ⟨rfl, hv⟩
 generalize hr : inL.contains b.toUInt8 = r
 have HR := Lib.hid hr; clear hr
 go_wp2
 go_ret
 exact ⟨by rw [HR.out]; rfl, hv⟩
set_option maxRecDepth 100000 in
theorem azt (x y : UInt8) (W : World) (g : Nat) (h0 : W.cell? ⟨g, 0, none⟩ = some (.int .u8 (x.toNat : Int))) (h1 : W.cell? ⟨g, 1, none⟩ = some (.int .u8 (y.toNat : Int))) :
  (convert 148 9 (.slice (some ⟨g, 0, none⟩) 2 2)).run Tryd.prog W = .ok (.string ⟨#[x, y]⟩) W := by
 refine run_convert_bytes_back (P := Tryd.prog) W 148 9 5 ⟨g, 0, none⟩ 2 [x, y] Tryd.underlying148 Tryd.underlying5 Tryd.underlying9 (fun j hj => ?_)
 have hj2 : j = 0 ∨ j = 1 := by simp at hj; omega
 rcases hj2 with rfl | rfl
 ·exact h0
 ·exact h1
set_option maxRecDepth 100000 in
theorem ayc : ∀ n : Fin 16, ajg[n.val]? = some (ae0 n) := by decide +kernel
set_option maxRecDepth 100000 in
theorem anc (n : Nat) (hn : n < 16) (W : World) : (Instr.index 9 (.string ajg) (.int .u8 (n : Int))).run Tryd.prog W = .ok (.int .u8 ((ae0 n).toNat : Int)) W := by
 have h := ayc ⟨n, hn⟩
 have hs : ajg.size = 16 := rfl
 rw [run_index_string (h := Tryd.underlying9), dif_pos ⟨by omega, by omega⟩]
 have h2 : ajg[(n : Int).toNat]? = some (ae0 n) := h
 rw [getElem?_pos ajg _ (by simp; omega)] at h2
 rw [Option.some.inj h2]
set_option maxRecDepth 100000 in
theorem ayh (b : Nat) (hb : b < 256) (c : Bool) : aek Tryd.prog 128 #[.int .u8 b, .bool c] (.string (bs (aq1 b c))) := by
 intro w
 have d1 : ((b : Int) == 10) = decide (b = 10) := by rw [Bool.eq_iff_iff]; simp; omega
 have d2 : ((b : Int) == 13) = decide (b = 13) := by rw [Bool.eq_iff_iff]; simp; omega
 have d3 : ((b : Int) == 9) = decide (b = 9) := by rw [Bool.eq_iff_iff]; simp; omega
 by_cases e1 : b = 10
 ·subst e1; cases c <;> (go_enter Tryd.func128, Tryd.ntmps128; go_wp2; go_ret; exact ⟨rfl, Below.refl _ _⟩)
 by_cases e2 : b = 13
 ·subst e2; cases c <;> (go_enter Tryd.func128, Tryd.ntmps128; go_wp2; go_ret; exact ⟨rfl, Below.refl _ _⟩)
 by_cases e3 : b = 9
 ·subst e3; cases c <;> (go_enter Tryd.func128, Tryd.ntmps128; go_wp2; go_ret; exact ⟨rfl, Below.refl _ _⟩)
 rw [decide_eq_false e1] at d1
 rw [decide_eq_false e2] at d2
 rw [decide_eq_false e3] at d3
 have HN := Lib.hid (al2 e1 e2 e3)
 clear e1 e2 e3
 go_enter Tryd.func128, Tryd.ntmps128
 by_cases hout : b < 32 ∨ 126 < b
 ·have HF := Lib.hid (show aq1 b c = [92, 120, ae0 (b / 16), ae0 (b % 16)] by unfold aq1; rw [HN.out]; simp [hout])
  have x1 : ∀ W, (Instr.index 9 (.string ajg) (.int .u8 ((b : Int) / 16))).run Tryd.prog W = .ok (.int .u8 ((ae0 (b / 16)).toNat : Int)) W := anc (b / 16) (by omega)
  have x2 : ∀ W, (Instr.index 9 (.string ajg) (.int .u8 ((b : Int) % 16))).run Tryd.prog W = .ok (.int .u8 ((ae0 (b % 16)).toNat : Int)) W := anc (b % 16) (by omega)
  unfold ajg at x1 x2
  have cv := azt (ae0 (b / 16)) (ae0 (b % 16))
  clear HN
  rcases hout with hlo | hhi
  all_goals
   go_wp2
   refine abr (fun w' => w' = w.drew) 8 (by kernel_rfl) (by kernel_rfl) rfl ?_
   simp only [List.take_succ_cons, List.take_zero, List.drop_succ_cons, List.drop_zero]
   repeat
    refine ad0 ?_ rfl (fun w' hS => ?_) ?_
    rotate_left
    ·have hS' : w' = w.drew := hS
     subst hS'
     go_simp
     try go_bits
     exact ad1 (P := Tryd.prog) rfl
    simp only [Act.put, List.setIfInBounds_toArray, List.set_cons_zero, List.set_cons_succ]
   refine aev ?_
   intro w' hS
   obtain rfl := hS
   go_wp2
   go_ret
   exact ⟨by rw [HF.out]; rfl, (Below.refl _ _).drew.alloc (Nat.le_refl _) _⟩
 ·have n1 : ¬ b < 32 := by omega
  have n2 : ¬ 126 < b := by omega
  have cb := aph b hb
  cases c
  ·have HF := Lib.hid (show aq1 b false = [b.toUInt8] by unfold aq1; rw [HN.out]; simp only; rw [if_neg hout]; rfl)
   clear HN hout
   go_wp2
   go_ret
   exact ⟨by rw [HF.out]; rfl, (Below.refl _ _).alloc (Nat.le_refl _) _⟩
  ·have HF := Lib.hid (show aq1 b true = [92, b.toUInt8] by unfold aq1; rw [HN.out]; simp only; rw [if_neg hout]; rfl)
   clear HN hout
   go_wp2
   go_ret
   exact ⟨by rw [HF.out]; rfl, (Below.refl _ _).alloc (Nat.le_refl _) _⟩
end Go.Proofs.YtohnchdnkbadaaaDoor
namespace Go.Proofs.YtohnchdnkbadaaaDoor
open Go Go.RowKit
def wl (s : CS) : List Value := [.int .u64 (wd s 0), .int .u64 (wd s 1), .int .u64 (wd s 2), .int .u64 (wd s 3)]
set_option maxRecDepth 100000 in
theorem alo {x : Int} (h : 0 ≤ x ∧ x < 256) : ∃ n : Nat, n < 256 ∧ x = (n : Int) := ⟨x.toNat, by omega, by omega⟩
set_option maxRecDepth 100000 in
theorem amm (lo hi : Int) (h : (0 ≤ lo ∧ lo < 256) ∧ (0 ≤ hi ∧ hi < 256)) : c8 Tryd.prog 176 [.int .u8 lo, .int .u8 hi] [] [] (Ret (.agg (wl (abv lo.toNat hi.toNat)).toArray) []) := by
 obtain ⟨n, hn, rfl⟩ := alo h.1
 obtain ⟨m, hm, rfl⟩ := alo h.2
 exact c8.ofPure (avg n m hn hm)
set_option maxRecDepth 100000 in
theorem ap9 (s : CS) : c8 Tryd.prog 125 [.agg (wl s).toArray] [] [] (Ret (.agg (wl (~~~ s)).toArray) []) := c8.ofPure (apb s)
set_option maxRecDepth 100000 in
theorem aq7 (s t : CS) : c8 Tryd.prog 180 [.agg (wl s).toArray, .agg (wl t).toArray] [] [] (Ret (.agg (wl (s ||| t)).toArray) []) := c8.ofPure (arm s t)
set_option maxRecDepth 100000 in
theorem ayj (l : List UInt8) (h : l.length ≤ maxLen) : c8 Tryd.prog 41 [st l] [] [] (Ret (.agg (wl (ofS l)).toArray) []) := by
 have := ayp ⟨l.toArray⟩ (by simpa [ByteArray.size] using h)
 exact c8.ofPure this
set_option maxRecDepth 100000 in
theorem afl (l : List UInt8) (c : Int) : c8 Tryd.prog 135 [st l, .int .u8 c] [] [] (Ret (.int .i64 (Lib.indexByte l c.toNat.toUInt8)) []) :=
 c8.ofPure fun w => (Tryd.strings_IndexByte ⟨l.toArray⟩ c w).mono fun _ _ ⟨h1, h2⟩ => by subst h2; exact ⟨h1, Below.refl _ _⟩
set_option maxRecDepth 100000 in
theorem aoh (c : Int) (h : 0 ≤ c ∧ c < 256) : c8 Tryd.prog 119 [.int .u8 c] [] [] (Ret (.bool (spL.contains c.toNat.toUInt8)) []) := by
 obtain ⟨n, hn, rfl⟩ := alo h
 exact c8.ofPure (ajb n hn)
set_option maxRecDepth 100000 in
theorem arz (c : Int) (h : 0 ≤ c ∧ c < 256) : c8 Tryd.prog 118 [.int .u8 c] [] [] (Ret (.bool (inL.contains c.toNat.toUInt8)) []) := by
 obtain ⟨n, hn, rfl⟩ := alo h
 exact c8.ofPure (v4 n hn)
def n8 (code place : Int) : Value := .iface 26 (.agg #[.int .i64 code, .int .i64 place, st []])
end Go.Proofs.YtohnchdnkbadaaaDoor
namespace Go.Proofs.YtohnchdnkbadaaaDoor
open Go Go.RowKit
abbrev zP (b : Nat) : Value := Value.pointer (some ⟨b, 0, none⟩)
abbrev zI (i : Int) : Value := Value.int .i64 i
abbrev zU (i : Int) : Value := Value.int .u8 i
abbrev zB (b : Bool) : Value := Value.bool b
theorem wv {P : Program} {ops : Array Oper} {Q : Exit → Act → World → Prop} {C : Cx} {L : Sl} {H : List HA} {rest : List Oper} {o : Oper} {v : Value} {d : Nat} (hv : OV P C L H o v) (h : WL P ops Q C ((d, v) :: L) H rest) (hw : r9 ops L o = some true := by exact rfl) (hd : o.dst = some d := by exact rfl) (hn : Nat.blt d C.n = true := by exact rfl) : WL P ops Q C L H (o :: rest) := WL.val hv hw hd hn h
theorem kg {C : Cx} {L L' : Sl} {H : List HA} {K : Act → World → Prop} (h : KX K C L' H) (hs : Sub L L' := by repeat (first | exact trivial | refine ⟨rfl, ?_⟩)) : KX K C L H := KX.go h hs
theorem kh {C : Cx} {L L' : Sl} {H H' : List HA} {K : Act → World → Prop} (h : KX K C L' H') (idx : List Nat) (hs : Sub L L' := by repeat (first | exact trivial | refine ⟨rfl, ?_⟩)) (hi : x5 idx = true := by exact rfl) (he : sel H idx = H' := by exact rfl) : KX K C L H := KX.goH h hs idx hi he
theorem wk {P : Program} {ops : Array Oper} {Q : Exit → Act → World → Prop} {C : Cx} {L : Sl} {H : List HA} {rest : List Oper} {o : Oper} {d : Nat} (h : WL P ops Q C ((d, undef) :: L) H rest) (hw : r9 ops L o = some false := by exact rfl) (hd : o.dst = some d := by exact rfl) (hn : Nat.blt d C.n = true := by exact rfl) : WL P ops Q C L H (o :: rest) := WL.skip hw hd hn h
theorem wm {P : Program} {ops : Array Oper} {Q : Exit → Act → World → Prop} {C : Cx} {L : Sl} {H : List HA} {rest : List Oper} {x : Operand} {ty : TypeId} {p : String} {e : Array Edge} {g : Option (Nat × Bool)} {v : Value} {d : Nat} (h : WL P ops Q C ((d, v) :: L) H rest) (hx : ev L x = some v := by exact rfl) (hw : r9 ops L ⟨some d, .move x, ty, p, e, g⟩ = some true := by exact rfl) (hn : Nat.blt d C.n = true := by exact rfl) : WL P ops Q C L H (⟨some d, .move x, ty, p, e, g⟩ :: rest) := WL.val (OV.move hx) hw rfl hn h
theorem wa {P : Program} {ops : Array Oper} {Q : Exit → Act → World → Prop} {C : Cx} {L : Sl} {H : List HA} {rest : List Oper} {x : Operand} {ty : TypeId} {p : String} {e : Array Edge} {g : Option (Nat × Bool)} {v : Value} {d : Nat} (h : WL P ops Q C ((d, v) :: L) H rest) (hx : ev L x = some v := by exact rfl) (hw : r9 ops L ⟨some d, .assign x, ty, p, e, g⟩ = some true := by exact rfl) (hn : Nat.blt d C.n = true := by exact rfl) : WL P ops Q C L H (⟨some d, .assign x, ty, p, e, g⟩ :: rest) := WL.val (OV.assign hx) hw rfl hn h
theorem fv {P : Program} {ops : Array Oper} {T : World → o7 → Act → Prop} {C : Cx} {L : FSl} {H : List HA} {zl : List (Nat × Obj)} {k : Nat} {rest : List Oper} {o : Oper} {v : Value} {d : Nat} (hv : ∀ β, OV P C (L β) H o v) (h : FL P ops T C (fun β => (d, v) :: L β) H zl (k + 1) rest) (hz : y8 zl k = none := by exact rfl) (hw : ∀ β, r9 ops (L β) o = some true := by exact fun _ => rfl) (hd : o.dst = some d := by exact rfl) (hn : Nat.blt d C.n = true := by exact rfl) : FL P ops T C L H zl k (o :: rest) := FL.val hv hz hw hd hn h
end Go.Proofs.YtohnchdnkbadaaaDoor
set_option maxRecDepth 100000
namespace Go.Proofs.YtohnchdnkbadaaaDoor
open Go Go.RowKit
theorem aci : (Tryd.prog.underlying 5).isSome = true := by kernel_rfl
theorem d5 : l9 Tryd.prog 222 1 = some 1 := by kernel_rfl
theorem a7 : abw Tryd.prog 3 = true := by kernel_rfl
theorem adq : l9 Tryd.prog 222 0 = some 0 := by kernel_rfl
theorem aa3 : abw Tryd.prog 9 = true := by kernel_rfl
theorem k9 : axd Tryd.prog 9 = true := by kernel_rfl
theorem f0 : Tryd.prog.follows .mixedOrders = true := by kernel_rfl
theorem ag9 : Program.concrete Tryd.prog 26 = true := by kernel_rfl
def aih (c : Int) (K : Int → Prop) : Prop :=
 (if ((decide (48 ≤ c)) && (decide (c ≤ 57))) = true then
  (I64 (IntKind.wrap .u8 (c - 48))) ∧
  K (IntKind.wrap .u8 (c - 48))
 else
  (if ((decide (97 ≤ c)) && (decide (c ≤ 102))) = true then
   (I64 (IntKind.wrap .u8 (c - 97))) ∧
   (I64 ((IntKind.wrap .u8 (c - 97)) + 10)) ∧
   K ((IntKind.wrap .u8 (c - 97)) + 10)
  else
   K (-1)))
theorem aua  (c : Int) (K : Int → Prop) (h : aih c K) :
  c8 Tryd.prog 120 [zU c] [] [] (fun o => (∃ (v : Int), K v ∧ o = .ret (zI v) []) ∨ (False)) := by
 unfold aih at h
 refine c6 (n := 22) (L0 := [(0, zU c)]) Tryd.func120 rfl rfl rfl rfl (fun w0 M Q hE => ?_)
 refine a6 (fun _ hK => ?_)
 refine a4 ?_
 refine wa ?_
 refine WL.nil ?_
 refine kg (hK [(0, zU c)] _ ?_)
 refine a6 (fun _ hK_1' => ?_)
 refine a6 (fun _ hK_2' => ?_)
 refine a4 ?_
 refine wm ?_
 refine wv (OV.geq rfl rfl) ?_
 refine wm ?_
 refine WL.cut 3 [(0, zU c), (8, zB ((decide (48 ≤ c)) && (decide (c ≤ 57))))] ?_ (fun K0_3' hK_3' => ?_)
 rotate_left
 ·refine WL.split (decide (48 ≤ c)) (fun hb => ?_) (fun hb => ?_)
  ·refine WL.set 5 rfl (congrArg zB hb) ?_
   refine wm ?_
   refine wv (OV.leq rfl rfl) ?_
   refine wv (OV.pickT rfl rfl) ?_
   refine WL.set 8 rfl (bT (v := decide (c ≤ 57)) hb) ?_
   exact WL.end_ (kg hK_3')
  ·refine WL.set 5 rfl (congrArg zB hb) ?_
   refine wk ?_
   refine wk ?_
   refine wv (OV.pickF rfl rfl) ?_
   refine WL.set 8 rfl (bF (v := decide (c ≤ 57)) hb) ?_
   exact WL.end_ (kg hK_3')
 refine WL.nil ?_
 refine kg (hK_2' [(0, zU c), (8, zB ((decide (48 ≤ c)) && (decide (c ≤ 57))))] _ ?_)
 refine b5 (b := (decide (48 ≤ c)) && (decide (c ≤ 57))) rfl (fun hb => ?_) (fun hb => ?_)
 ·replace h := j4 h hb
  refine a6 (fun _ hK_4' => ?_)
  refine a4 ?_
  refine wm ?_
  refine wv (OV.subW rfl rfl) ?_
  obtain ⟨o_1', h⟩ := h
  refine wv (OV.conv64 rfl aci Tryd.underlying3 o_1') ?_
  refine wa ?_
  refine WL.nil ?_
  refine kg (hK_4' [(2, zI (IntKind.wrap .u8 (c - 48)))] _ ?_)
  refine b9 ?_
  exact hE.ret [] rfl rfl (.inl ⟨_, h, rfl⟩) (d8.of1 rfl (RV.tmp rfl))
 ·replace h := i9 h hb
  refine b7 ?_
  refine kg (hK_1' [(0, zU c)] _ ?_)
  refine a6 (fun _ hK_5' => ?_)
  refine a6 (fun _ hK_6' => ?_)
  refine a4 ?_
  refine wm ?_
  refine wv (OV.geq rfl rfl) ?_
  refine wm ?_
  refine WL.cut 3 [(0, zU c), (17, zB ((decide (97 ≤ c)) && (decide (c ≤ 102))))] ?_ (fun K0_7' hK_7' => ?_)
  rotate_left
  ·refine WL.split (decide (97 ≤ c)) (fun hb => ?_) (fun hb => ?_)
   ·refine WL.set 14 rfl (congrArg zB hb) ?_
    refine wm ?_
    refine wv (OV.leq rfl rfl) ?_
    refine wv (OV.pickT rfl rfl) ?_
    refine WL.set 17 rfl (bT (v := decide (c ≤ 102)) hb) ?_
    exact WL.end_ (kg hK_7')
   ·refine WL.set 14 rfl (congrArg zB hb) ?_
    refine wk ?_
    refine wk ?_
    refine wv (OV.pickF rfl rfl) ?_
    refine WL.set 17 rfl (bF (v := decide (c ≤ 102)) hb) ?_
    exact WL.end_ (kg hK_7')
  refine WL.nil ?_
  refine kg (hK_6' [(0, zU c), (17, zB ((decide (97 ≤ c)) && (decide (c ≤ 102))))] _ ?_)
  refine b5 (b := (decide (97 ≤ c)) && (decide (c ≤ 102))) rfl (fun hb => ?_) (fun hb => ?_)
  ·replace h := j4 h hb
   refine a6 (fun _ hK_8' => ?_)
   refine a4 ?_
   refine wm ?_
   refine wv (OV.subW rfl rfl) ?_
   obtain ⟨o_3', h⟩ := h
   refine wv (OV.conv64 rfl aci Tryd.underlying3 o_3') ?_
   obtain ⟨o_4', h⟩ := h
   refine wv (OV.add rfl rfl o_4') ?_
   refine wa ?_
   refine WL.nil ?_
   refine kg (hK_8' [(2, zI ((IntKind.wrap .u8 (c - 97)) + 10))] _ ?_)
   refine b9 ?_
   exact hE.ret [] rfl rfl (.inl ⟨_, h, rfl⟩) (d8.of1 rfl (RV.tmp rfl))
  ·replace h := i9 h hb
   refine b7 ?_
   refine KX.go (hK_5' [] _ ?_) trivial
   refine a6 (fun _ hK_9' => ?_)
   refine a4 ?_
   refine wa ?_
   refine WL.nil ?_
   refine kg (hK_9' [(2, zI (-1))] _ ?_)
   refine b9 ?_
   exact hE.ret [] rfl rfl (.inl ⟨_, h, rfl⟩) (d8.of1 rfl (RV.tmp rfl))
def aou (r_0 : List UInt8) (r_1 : Int) (K : Int → Bool → Prop) : Prop :=
 (if (decide (r_1 < (r_0.length : Int))) = true then
  (0 ≤ r_1 ∧ r_1 < r_0.length) ∧
  K ((r_0.getD r_1.toNat 0).toNat : Int) true
 else
  K 0 false)
theorem axu (b : Nat) (r_0 : List UInt8) (r_1 : Int) (K : Int → Bool → Prop) (h : aou r_0 r_1 K) :
  c8 Tryd.prog 178 [zP b] [(b, .cells [st r_0, zI r_1].toArray 222 (0, 0))] [] (fun o => (∃ (v : Int) (v_1' : Bool), K v v_1' ∧ o = .ret (Value.tuple #[zU v, zB v_1']) []) ∨ (False)) := by
 unfold aou at h
 refine c6 (n := 23) (L0 := [(0, zP b)]) Tryd.func178 rfl rfl rfl rfl (fun w0 M Q hE => ?_)
 refine a6 (fun _ hK => ?_)
 refine a4 ?_
 refine wa ?_
 refine wa ?_
 refine WL.nil ?_
 refine kg (hK [(0, zP b)] _ ?_)
 refine a6 (fun _ hK_1' => ?_)
 refine a6 (fun _ hK_2' => ?_)
 refine n9 9 [] f0 (by kernel_rfl) rfl (fun T hT => ?_)
 refine fv (fun _ => OV.move rfl) ?_
 refine fv (fun _ => OV.nilCheck rfl) ?_
 refine fv (fun _ => OV.fieldAddr0 rfl d5) ?_
 refine fv (fun _ => OV.load rfl (At.ro 0 rfl) rfl a7) ?_
 refine fv (fun _ => OV.move rfl) ?_
 refine fv (fun _ => OV.nilCheck rfl) ?_
 refine fv (fun _ => OV.fieldAddr0 rfl adq) ?_
 refine fv (fun _ => OV.load rfl (At.ro 0 rfl) rfl aa3) ?_
 refine fv (fun _ => OV.len rfl k9) ?_
 refine FL.weak (L' := fun γ => [(0, zP b), (7, zI r_1), (12, zI (r_0.length : Int))]) (fun γ => ⟨rfl, rfl, rfl, trivial⟩) (FL.nil (hT (fun γ => [(0, zP b), (7, zI r_1), (12, zI (r_0.length : Int))]) (fun γ => ?_)))
 refine wv (OV.lss rfl rfl) ?_
 refine WL.nil ?_
 refine kg (hK_2' [(0, zP b), (13, zB (decide (r_1 < (r_0.length : Int))))] _ ?_)
 refine b5 (b := decide (r_1 < (r_0.length : Int))) rfl (fun hb => ?_) (fun hb => ?_)
 ·replace h := j4 h hb
  refine a6 (fun _ hK_3' => ?_)
  refine n9 8 [] f0 (by kernel_rfl) rfl (fun T_1' hT_1' => ?_)
  refine fv (fun _ => OV.move rfl) ?_
  refine fv (fun _ => OV.nilCheck rfl) ?_
  refine fv (fun _ => OV.fieldAddr0 rfl adq) ?_
  refine fv (fun _ => OV.load rfl (At.ro 0 rfl) rfl aa3) ?_
  refine fv (fun _ => OV.move rfl) ?_
  refine fv (fun _ => OV.nilCheck rfl) ?_
  refine fv (fun _ => OV.fieldAddr0 rfl d5) ?_
  refine fv (fun _ => OV.load rfl (At.ro 0 rfl) rfl a7) ?_
  refine FL.weak (L' := fun γ => [(17, st r_0), (21, zI r_1)]) (fun γ => ⟨rfl, rfl, trivial⟩) (FL.nil (hT_1' (fun γ => [(17, st r_0), (21, zI r_1)]) (fun γ => ?_)))
  obtain ⟨o, h⟩ := h
  refine wv (OV.index rfl rfl k9 o) ?_
  refine wa ?_
  refine wa ?_
  refine WL.nil ?_
  refine kg (hK_3' [(2, zU ((r_0.getD r_1.toNat 0).toNat : Int)), (3, zB true)] _ ?_)
  refine b9 ?_
  exact hE.ret [] rfl rfl (.inl ⟨_, _, h, rfl⟩) (d8.of2 rfl (RV.tmp rfl) (RV.tmp rfl))
 ·replace h := i9 h hb
  refine b7 ?_
  refine KX.go (hK_1' [] _ ?_) trivial
  refine a6 (fun _ hK_4' => ?_)
  refine a4 ?_
  refine wa ?_
  refine wa ?_
  refine WL.nil ?_
  refine kg (hK_4' [(2, zU 0), (3, zB false)] _ ?_)
  refine b9 ?_
  exact hE.ret [] rfl rfl (.inl ⟨_, _, h, rfl⟩) (d8.of2 rfl (RV.tmp rfl) (RV.tmp rfl))
def ath (_ : Value) (at0 : Int) (_ : Prop) (KP : Value → Prop) : Prop :=
 KP (Value.iface 26 (Value.agg [zI 10, zI at0, st []].toArray))
theorem ayd  (r : Value) (at0 : Int) (K : Prop) (KP : Value → Prop) (h : ath r at0 K KP) :
  c8 Tryd.prog 179 [r, zI at0] [] [] (fun o => (K ∧ o = .ret (Value.tuple #[]) []) ∨ (∃ (pv : Value), KP pv ∧ o = .pan [{ v := pv, recovered := false }] [])) := by
 unfold ath at h
 refine c6 (n := 7) (L0 := [(0, r), (1, zI at0)]) Tryd.func179 rfl rfl rfl rfl (fun w0 M Q hE => ?_)
 refine a4 ?_
 refine wm ?_
 refine wv (OV.build rfl (cs := [zI 10, zI at0, st []]) rfl) ?_
 refine wv (OV.iface rfl ag9) ?_
 refine WL.panic rfl rfl ?_
 exact hE.pan [] rfl rfl (.inr ⟨_, h, rfl⟩)
end Go.Proofs.YtohnchdnkbadaaaDoor
namespace Go.Proofs.YtohnchdnkbadaaaDoor
open Go Go.RowKit
def b4 (t : List UInt8) (a : Int) : Int := if a < t.length then ((t.getD a.toNat 0).toNat : Int) else 0
def f9 (t : List UInt8) (a : Int) : Bool := decide (a < t.length)
def s5 (c : Int) : Int := if 48 ≤ c ∧ c ≤ 57 then c - 48 else if 97 ≤ c ∧ c ≤ 102 then c - 87 else -1
set_option maxRecDepth 100000 in
theorem ady (c : Int) (h : 0 ≤ c ∧ c < 256) : c8 Tryd.prog 120 [.int .u8 c] [] [] (Ret (.int .i64 (s5 c)) []) := by
 refine (aua c (fun r => r = s5 c) ?_).weak ?_
 ·unfold aih s5
  by_cases h1 : 48 ≤ c ∧ c ≤ 57
  ·rw [if_pos (by simpa using h1), if_pos h1, IntWalk.u8_in _ (by omega)]; exact ⟨⟨by omega, by omega⟩, rfl⟩
  ·rw [if_neg (by simpa using h1), if_neg h1]
   by_cases h2 : 97 ≤ c ∧ c ≤ 102
   ·rw [if_pos (by simpa using h2), if_pos h2, IntWalk.u8_in _ (by omega)]; exact ⟨⟨by omega, by omega⟩, ⟨by omega, by omega⟩, by omega⟩
   ·rw [if_neg (by simpa using h2), if_neg h2]
 ·rintro o (⟨v, rfl, rfl⟩ | h)
  ·rfl
  ·exact h.elim
set_option maxRecDepth 100000 in
theorem ac6 (b : Nat) (t : List UInt8) (a : Int) (h : 0 ≤ a) : c8 Tryd.prog 178 [.pointer (some ⟨b, 0, none⟩)] [(b, .cells [st t, .int .i64 a].toArray 222 (0, 0))] [] (Ret (.tuple #[.int .u8 (b4 t a), .bool (f9 t a)]) []) := by
 refine (axu b t a (fun r o => r = b4 t a ∧ o = f9 t a) ?_).weak ?_
 ·unfold aou b4 f9
  by_cases hlt : a < t.length <;> simp [hlt, h]
 ·rintro o (⟨v, v2, ⟨rfl, rfl⟩, rfl⟩ | h)
  ·rfl
  ·exact h.elim
set_option maxRecDepth 100000 in
theorem aec (b : Nat) (p : Int) : c8 Tryd.prog 179 [.pointer (some ⟨b, 0, none⟩), .int .i64 p] [] [] (fun o => o = .pan [{ v := n8 10 p, recovered := false }] []) := by
 refine (ayd _ p False (fun v => v = n8 10 p) rfl).weak ?_
 rintro o (⟨h, _⟩ | ⟨v, rfl, rfl⟩)
 ·exact h.elim
 ·rfl
def ahd (t : List UInt8) (a : Int) : Except Int (Int × Int) :=
 if a < t.length ∧ 0 ≤ s5 (b4 t a) then .ok (s5 (b4 t a), a + 1) else .error a
def ajl (t : List UInt8) (a : Int) : Except Int (Int × Int) :=
 if a < t.length then
  let c := b4 t a
  if c = 110 then .ok (10, a + 1)
  else if c = 114 then .ok (13, a + 1)
  else if c = 116 then .ok (9, a + 1)
  else if c = 120 then match ahd t (a + 1) with
   | .ok (hi, p) => match ahd t p with
    | .ok (lo, q) => .ok (16 * hi + lo, q)
    | .error e => .error e
   | .error e => .error e
  else if c < 32 ∨ 126 < c ∨ (48 ≤ c ∧ c ≤ 57) ∨ (97 ≤ c ∧ c ≤ 122) ∨ (65 ≤ c ∧ c ≤ 90) then .error a
  else .ok (c, a + 1)
 else .error a
def ads (t : List UInt8) (a : Int) (bar : List UInt8) : Except Int (Int × Int) :=
 if a < t.length then
  let c := b4 t a
  if c = 92 then ajl t (a + 1)
  else if c < 32 ∨ 126 < c ∨ bar.contains c.toNat.toUInt8 = true then .error a
  else .ok (c, a + 1)
 else .error a
end Go.Proofs.YtohnchdnkbadaaaDoor
set_option maxRecDepth 100000
namespace Go.Proofs.YtohnchdnkbadaaaDoor
open Go Go.RowKit
theorem acf : o6 Tryd.prog 178 = true := by kernel_rfl
theorem ak3 : o6 Tryd.prog 135 = true := by kernel_rfl
theorem ac8 : o6 Tryd.prog 179 = true := by kernel_rfl
theorem g9 : s8 Tryd.prog 3 1 = true := by kernel_rfl
theorem am0 : (Tryd.prog.underlying 3).isSome = true := by kernel_rfl
theorem arb : RowT Tryd.prog 214 6 := ⟨by kernel_rfl, by kernel_rfl⟩
theorem ahb : ao5 Tryd.prog 214 213 3 2 = true := by kernel_rfl
theorem agy : RowT Tryd.prog 213 2 := ⟨by kernel_rfl, by kernel_rfl⟩
theorem afj : abm Tryd.prog 213 = some [zU 0, zU 0] := by kernel_rfl
theorem afg : s8 Tryd.prog 213 2 = true := by kernel_rfl
theorem adh : l9 Tryd.prog 213 0 = some 0 := by kernel_rfl
theorem acb : abw Tryd.prog 5 = true := by kernel_rfl
theorem adb : l9 Tryd.prog 213 1 = some 1 := by kernel_rfl
theorem ak8 : o6 Tryd.prog 182 = true := by kernel_rfl
theorem aq9 : o6 Tryd.prog 181 = true := by kernel_rfl
def asa (r_0 : List UInt8) (r_1 : Int) (K : Int → (List UInt8) → Int → Prop) (KP : Value → (List UInt8) → Int → Prop) : Prop :=
 (0 ≤ r_1) ∧
 (if ((!(f9 r_0 r_1)) || (decide (Lib.indexByte ([48, 49, 50, 51, 52, 53, 54, 55, 56, 57, 97, 98, 99, 100, 101, 102] : List UInt8) (b4 r_0 r_1).toNat.toUInt8 < 0))) = true then
  KP (n8 10 r_1) r_0 r_1
 else
  (I64 (r_1 + 1)) ∧
  K (IntKind.wrap .u8 (Lib.indexByte ([48, 49, 50, 51, 52, 53, 54, 55, 56, 57, 97, 98, 99, 100, 101, 102] : List UInt8) (b4 r_0 r_1).toNat.toUInt8)) r_0 (r_1 + 1))
theorem ay0 (b : Nat) (r_0 : List UInt8) (r_1 : Int) (K : Int → (List UInt8) → Int → Prop) (KP : Value → (List UInt8) → Int → Prop) (h : asa r_0 r_1 K KP) :
  c8 Tryd.prog 182 [zP b] [] [HA.blk b (.cells [st r_0, zI r_1].toArray 222 (0, 0))] (fun o => (∃ (v : Int) (d_0 : List UInt8) (d_1 : Int), K v d_0 d_1 ∧ o = .ret (zU v) [HA.blk b (.cells [st d_0, zI d_1].toArray 222 (0, 0))]) ∨ (∃ (pv : Value) (d_0 : List UInt8) (d_1 : Int), KP pv d_0 d_1 ∧ o = .pan [{ v := pv, recovered := false }] [HA.blk b (.cells [st d_0, zI d_1].toArray 222 (0, 0))])) := by
 unfold asa at h
 refine c6 (n := 34) (L0 := [(0, zP b)]) Tryd.func182 rfl rfl rfl rfl (fun w0 M Q hE => ?_)
 refine a6 (fun _ hK => ?_)
 refine a4 ?_
 refine wa ?_
 refine WL.nil ?_
 refine kg (hK [(0, zP b)] _ ?_)
 refine a6 (fun _ hK_1' => ?_)
 refine a4 ?_
 refine wm ?_
 obtain ⟨o, h⟩ := h
 refine WL.call (A := []) acf rfl (ac6 b r_0 r_1 o) rfl ⟨.inl ⟨0, rfl⟩, trivial⟩ rfl rfl ?_
 refine wm ?_
 refine wv (OV.extract 0 rfl rfl) ?_
 refine wv (OV.extract 1 rfl rfl) ?_
 refine wa ?_
 refine wa ?_
 refine WL.nil ?_
 refine kg (hK_1' [(0, zP b), (3, zU (b4 r_0 r_1)), (4, zB (f9 r_0 r_1))] _ ?_)
 refine a6 (fun _ hK_2' => ?_)
 refine a4 ?_
 refine wm ?_
 refine WL.call (A := []) ak3 rfl (afl ([48, 49, 50, 51, 52, 53, 54, 55, 56, 57, 97, 98, 99, 100, 101, 102] : List UInt8) (b4 r_0 r_1)) rfl trivial rfl rfl ?_
 refine wa ?_
 refine WL.nil ?_
 refine kg (hK_2' [(0, zP b), (4, zB (f9 r_0 r_1)), (5, zI (Lib.indexByte ([48, 49, 50, 51, 52, 53, 54, 55, 56, 57, 97, 98, 99, 100, 101, 102] : List UInt8) (b4 r_0 r_1).toNat.toUInt8))] _ ?_)
 refine a6 (fun _ hK_3' => ?_)
 refine a6 (fun _ hK_4' => ?_)
 refine a4 ?_
 refine wm ?_
 refine wv (OV.not rfl) ?_
 refine wm ?_
 refine WL.cut 3 [(0, zP b), (5, zI (Lib.indexByte ([48, 49, 50, 51, 52, 53, 54, 55, 56, 57, 97, 98, 99, 100, 101, 102] : List UInt8) (b4 r_0 r_1).toNat.toUInt8)), (18, zB ((!(f9 r_0 r_1)) || (decide (Lib.indexByte ([48, 49, 50, 51, 52, 53, 54, 55, 56, 57, 97, 98, 99, 100, 101, 102] : List UInt8) (b4 r_0 r_1).toNat.toUInt8 < 0))))] ?_ (fun K0_5' hK_5' => ?_)
 rotate_left
 ·refine WL.split (!(f9 r_0 r_1)) (fun hb => ?_) (fun hb => ?_)
  ·refine WL.set 15 rfl (congrArg zB hb) ?_
   refine wk ?_
   refine wk ?_
   refine wv (OV.pickT rfl rfl) ?_
   refine WL.set 18 rfl (oT (v := decide (Lib.indexByte ([48, 49, 50, 51, 52, 53, 54, 55, 56, 57, 97, 98, 99, 100, 101, 102] : List UInt8) (b4 r_0 r_1).toNat.toUInt8 < 0)) hb) ?_
   exact WL.end_ (kg hK_5')
  ·refine WL.set 15 rfl (congrArg zB hb) ?_
   refine wm ?_
   refine wv (OV.lss rfl rfl) ?_
   refine wv (OV.pickF rfl rfl) ?_
   refine WL.set 18 rfl (oF (v := decide (Lib.indexByte ([48, 49, 50, 51, 52, 53, 54, 55, 56, 57, 97, 98, 99, 100, 101, 102] : List UInt8) (b4 r_0 r_1).toNat.toUInt8 < 0)) hb) ?_
   exact WL.end_ (kg hK_5')
 refine WL.nil ?_
 refine kg (hK_4' [(0, zP b), (5, zI (Lib.indexByte ([48, 49, 50, 51, 52, 53, 54, 55, 56, 57, 97, 98, 99, 100, 101, 102] : List UInt8) (b4 r_0 r_1).toNat.toUInt8)), (18, zB ((!(f9 r_0 r_1)) || (decide (Lib.indexByte ([48, 49, 50, 51, 52, 53, 54, 55, 56, 57, 97, 98, 99, 100, 101, 102] : List UInt8) (b4 r_0 r_1).toNat.toUInt8 < 0))))] _ ?_)
 refine b5 (b := (!(f9 r_0 r_1)) || (decide (Lib.indexByte ([48, 49, 50, 51, 52, 53, 54, 55, 56, 57, 97, 98, 99, 100, 101, 102] : List UInt8) (b4 r_0 r_1).toNat.toUInt8 < 0))) rfl (fun hb => ?_) (fun hb => ?_)
 ·replace h := j4 h hb
  refine a4 ?_
  refine wm ?_
  refine wm ?_
  refine wv (OV.nilCheck rfl) ?_
  refine wv (OV.fieldAddr0 rfl d5) ?_
  refine wv (OV.load rfl (At.own 0 rfl) rfl a7) ?_
  refine WL.callS ac8 rfl (aec b r_1) rfl trivial rfl rfl (fun r H' hS => by cases hS) (fun c H' hS => ?_)
  cases hS
  exact hE.pan [0] rfl rfl (.inr ⟨_, _, _, h, rfl⟩)
 ·replace h := i9 h hb
  refine b7 ?_
  refine kg (hK_3' [(0, zP b), (5, zI (Lib.indexByte ([48, 49, 50, 51, 52, 53, 54, 55, 56, 57, 97, 98, 99, 100, 101, 102] : List UInt8) (b4 r_0 r_1).toNat.toUInt8))] _ ?_)
  refine a6 (fun _ hK_6' => ?_)
  refine a4 ?_
  refine wm ?_
  refine wv (OV.nilCheck rfl) ?_
  refine wv (OV.fieldAddr0 rfl d5) ?_
  refine wv (OV.load rfl (At.own 0 rfl) rfl a7) ?_
  obtain ⟨o_2', h⟩ := h
  refine wv (OV.add rfl rfl o_2') ?_
  refine wv (OV.nilCheck rfl) ?_
  refine wv (OV.fieldAddr0 rfl d5) ?_
  refine WL.store (vs := [zI (r_1 + 1)]) (cs' := [st r_0, zI (r_1 + 1)]) 0 rfl rfl rfl rfl g9 (Nat.le_of_ble_eq_true rfl) rfl rfl rfl ?_
  refine WL.nil ?_
  refine kg (hK_6' [(5, zI (Lib.indexByte ([48, 49, 50, 51, 52, 53, 54, 55, 56, 57, 97, 98, 99, 100, 101, 102] : List UInt8) (b4 r_0 r_1).toNat.toUInt8))] _ ?_)
  refine a6 (fun _ hK_7' => ?_)
  refine a4 ?_
  refine wm ?_
  refine wv (OV.conv rfl am0 Tryd.underlying5) ?_
  refine wa ?_
  refine WL.nil ?_
  refine kg (hK_7' [(2, zU (IntKind.wrap .u8 (Lib.indexByte ([48, 49, 50, 51, 52, 53, 54, 55, 56, 57, 97, 98, 99, 100, 101, 102] : List UInt8) (b4 r_0 r_1).toNat.toUInt8)))] _ ?_)
  refine b9 ?_
  exact hE.ret [0] rfl rfl (.inl ⟨_, _, _, h, rfl⟩) (d8.of1 rfl (RV.tmp rfl))
theorem ayb (c : Int) (h : 0 ≤ c ∧ c < 256) : Lib.indexByte [48, 49, 50, 51, 52, 53, 54, 55, 56, 57, 97, 98, 99, 100, 101, 102] c.toNat.toUInt8 = s5 c := by
 obtain ⟨n, hn, rfl⟩ := alo h
 simp only [Int.toNat_natCast]
 revert n; decide
theorem aa5 (t : List UInt8) (a : Int) : 0 ≤ b4 t a ∧ b4 t a < 256 := by
 unfold b4
 split
 ·have := (t.getD a.toNat 0).toNat_lt; omega
 ·omega
theorem af3 {c : Int} : -1 ≤ s5 c ∧ s5 c ≤ 15 := by unfold s5; split <;> (try split) <;> omega
abbrev ahx (b : Nat) (t : List UInt8) (a : Int) : HA := .blk b (.cells [st t, .int .i64 a].toArray 222 (0, 0))
def aw9 (b : Nat) (t : List UInt8) (enc : Int → Value) (m : Except Int (Int × Int)) : Out → Prop := fun o =>
 (∃ r q, m = .ok (r, q) ∧ o = .ret (enc r) [ahx b t q]) ∨ (∃ e q, m = .error e ∧ o = .pan [{ v := n8 10 e, recovered := false }] [ahx b t q])
theorem apv (b : Nat) (t : List UInt8) (a : Int) (h : 0 ≤ a ∧ a ≤ t.length ∧ t.length ≤ 9223372036854775807) : c8 Tryd.prog 182 [.pointer (some ⟨b, 0, none⟩)] [] [ahx b t a] (aw9 b t (fun r => .int .u8 r) (ahd t a)) := by
 refine (ay0 b t a (fun r t' q => t' = t ∧ ahd t a = .ok (r, q)) (fun v t' _ => t' = t ∧ ∃ e, ahd t a = .error e ∧ v = n8 10 e) ?_).weak ?_
 ·have hb := aa5 t a
  have hr := af3 (c := b4 t a)
  unfold asa
  rw [ayb _ hb]
  unfold ahd f9
  refine ⟨h.1, ?_⟩
  by_cases h1 : a < t.length ∧ 0 ≤ s5 (b4 t a)
  ·rw [if_neg (by simp; omega), IntWalk.u8_in _ (by omega), if_pos h1]
   exact ⟨⟨by omega, by omega⟩, rfl, rfl⟩
  ·rw [if_pos (by simp; omega), if_neg h1]
   exact ⟨rfl, _, rfl, rfl⟩
 ·rintro o (⟨r, t', q, ⟨rfl, hm⟩, rfl⟩ | ⟨v, t', q, ⟨rfl, e, hm, rfl⟩, rfl⟩)
  ·exact .inl ⟨r, q, hm, rfl⟩
  ·exact .inr ⟨e, q, hm, rfl⟩
def aia (r_0 : List UInt8) (r_1 : Int) (K : Int → (List UInt8) → Int → Prop) (KP : Value → (List UInt8) → Int → Prop) : Prop :=
 (0 ≤ r_1) ∧
 (if (!(f9 r_0 r_1)) = true then
  KP (n8 10 r_1) r_0 r_1
 else
  (if (decide (110 = b4 r_0 r_1)) = true then
   (I64 (r_1 + 1)) ∧
   K 10 r_0 (r_1 + 1)
  else
   (if (decide (114 = b4 r_0 r_1)) = true then
    (I64 (r_1 + 1)) ∧
    K 13 r_0 (r_1 + 1)
   else
    (if (decide (116 = b4 r_0 r_1)) = true then
     (I64 (r_1 + 1)) ∧
     K 9 r_0 (r_1 + 1)
    else
     (if (decide (b4 r_0 r_1 = 120)) = true then
      (I64 (r_1 + 1)) ∧
      (0 ≤ r_1 + 1 ∧ r_1 + 1 ≤ r_0.length ∧ r_0.length ≤ 9223372036854775807) ∧
      (∀ (r_1' : Int) (at0 : Int), ahd r_0 (r_1 + 1) = .ok (r_1', at0) →
       (0 ≤ at0 ∧ at0 ≤ r_0.length ∧ r_0.length ≤ 9223372036854775807) ∧
       (∀ (r_2' : Int) (at0_2' : Int), ahd r_0 at0 = .ok (r_2', at0_2') →
        K (bits .or .u8 (IntKind.wrap .u8 (r_1' * 2 ^ (4 : Int).toNat)) r_2') r_0 at0_2') ∧
       (∀ (e_1' : Int) (at0_3' : Int), ahd r_0 at0 = .error e_1' →
        KP (n8 10 e_1') r_0 at0_3')) ∧
      (∀ (e : Int) (at0_1' : Int), ahd r_0 (r_1 + 1) = .error e →
       KP (n8 10 e) r_0 at0_1')
     else
      (if (((((decide (b4 r_0 r_1 < 32)) || (decide (126 < b4 r_0 r_1))) || ((decide (48 ≤ b4 r_0 r_1)) && (decide (b4 r_0 r_1 ≤ 57)))) || ((decide (97 ≤ b4 r_0 r_1)) && (decide (b4 r_0 r_1 ≤ 122)))) || ((decide (65 ≤ b4 r_0 r_1)) && (decide (b4 r_0 r_1 ≤ 90)))) = true then
       KP (n8 10 r_1) r_0 r_1
      else
       (I64 (r_1 + 1)) ∧
       K (b4 r_0 r_1) r_0 (r_1 + 1)))))))
theorem auh (b : Nat) (te : TypeId) (fre : Nat × Nat) (r_0 : List UInt8) (r_1 : Int) (K : Int → (List UInt8) → Int → Prop) (KP : Value → (List UInt8) → Int → Prop) (h : aia r_0 r_1 K KP) :
  c8 Tryd.prog 181 [zP b] [(1, .cells [zU 110, zU 10, zU 114, zU 13, zU 116, zU 9].toArray te fre)] [HA.blk b (.cells [st r_0, zI r_1].toArray 222 (0, 0))] (fun o => (∃ (v : Int) (d_0 : List UInt8) (d_1 : Int), K v d_0 d_1 ∧ o = .ret (zU v) [HA.blk b (.cells [st d_0, zI d_1].toArray 222 (0, 0))]) ∨ (∃ (pv : Value) (d_0 : List UInt8) (d_1 : Int), KP pv d_0 d_1 ∧ o = .pan [{ v := pv, recovered := false }] [HA.blk b (.cells [st d_0, zI d_1].toArray 222 (0, 0))])) := by
 unfold aia at h
 refine c6 (n := 99) (L0 := [(0, zP b)]) Tryd.func181 rfl rfl rfl rfl (fun w0 M Q hE => ?_)
 refine a6 (fun _ hK => ?_)
 refine a4 ?_
 refine wa ?_
 refine WL.nil ?_
 refine kg (hK [(0, zP b)] _ ?_)
 refine a6 (fun _ hK_1' => ?_)
 refine a4 ?_
 refine wm ?_
 obtain ⟨o, h⟩ := h
 refine WL.call (A := []) acf rfl (ac6 b r_0 r_1 o) rfl ⟨.inl ⟨0, rfl⟩, trivial⟩ rfl rfl ?_
 refine wm ?_
 refine wv (OV.extract 0 rfl rfl) ?_
 refine wv (OV.extract 1 rfl rfl) ?_
 refine wa ?_
 refine wa ?_
 refine WL.nil ?_
 refine kg (hK_1' [(0, zP b), (3, zU (b4 r_0 r_1)), (4, zB (f9 r_0 r_1))] _ ?_)
 refine a6 (fun _ hK_2' => ?_)
 refine a6 (fun _ hK_3' => ?_)
 refine a4 ?_
 refine wm ?_
 refine wv (OV.not rfl) ?_
 refine WL.nil ?_
 refine kg (hK_3' [(0, zP b), (3, zU (b4 r_0 r_1)), (14, zB (!(f9 r_0 r_1)))] _ ?_)
 refine b5 (b := !(f9 r_0 r_1)) rfl (fun hb => ?_) (fun hb => ?_)
 ·replace h := j4 h hb
  refine a4 ?_
  refine wm ?_
  refine wm ?_
  refine wv (OV.nilCheck rfl) ?_
  refine wv (OV.fieldAddr0 rfl d5) ?_
  refine wv (OV.load rfl (At.own 0 rfl) rfl a7) ?_
  refine WL.callS ac8 rfl (aec b r_1) rfl trivial rfl rfl (fun r H' hS => by cases hS) (fun c H' hS => ?_)
  cases hS
  exact hE.pan [0] rfl rfl (.inr ⟨_, _, _, h, rfl⟩)
 ·replace h := i9 h hb
  refine b7 ?_
  refine kg (hK_2' [(0, zP b), (3, zU (b4 r_0 r_1))] _ ?_)
  refine a6 (fun _ hK_4' => ?_)
  refine a6 (fun _ hK_5' => ?_)
  refine a4 ?_
  refine wv (OV.loadR rfl (At.ro 0 rfl) arb) ?_
  refine wm ?_
  refine WL.nil ?_
  refine kg (hK_5' [(0, zP b), (3, zU (b4 r_0 r_1)), (21, Value.agg [zU 110, zU 10, zU 114, zU 13, zU 116, zU 9].toArray), (22, zI 0)] _ ?_)
  refine g8 ?_
  refine ane 4 ?_
  refine RC.succ (fun K0_6' hK_6' => ?_)
  refine a6 (fun _ hK_7' => ?_)
  refine a4 ?_
  refine wv (OV.lss rfl rfl) ?_
  refine WL.nil ?_
  refine kg (hK_7' [(0, zP b), (3, zU (b4 r_0 r_1)), (21, Value.agg [zU 110, zU 10, zU 114, zU 13, zU 116, zU 9].toArray), (22, zI 0), (23, zB true)] _ ?_)
  refine a6 (fun _ hK_8' => ?_)
  refine aai rfl ?_
  refine b7 ?_
  refine kg (hK_8' [(0, zP b), (3, zU (b4 r_0 r_1)), (21, Value.agg [zU 110, zU 10, zU 114, zU 13, zU 116, zU 9].toArray), (22, zI 0)] _ ?_)
  refine a6 (fun _ hK_9' => ?_)
  refine g8 ?_
  refine a6 (fun _ hK_10' => ?_)
  refine a4 ?_
  refine wv (OV.indexM (vs := [zU 110, zU 10]) rfl rfl ahb (by decide) agy rfl) ?_
  refine WL.make (MV.alloc afj) rfl rfl rfl (fun b_1' => ?_)
  refine WL.storeW (vs := [zU 110, zU 10]) 0 rfl rfl rfl rfl rfl afg rfl rfl rfl ?_
  refine WL.nil ?_
  refine kg (hK_10' [(0, zP b), (3, zU (b4 r_0 r_1)), (6, zP b_1'), (21, Value.agg [zU 110, zU 10, zU 114, zU 13, zU 116, zU 9].toArray), (22, zI 0)] _ ?_)
  refine a6 (fun _ hK_11' => ?_)
  refine a4 ?_
  refine wv (OV.fieldAddr0 rfl adh) ?_
  refine wv (OV.load rfl (At.own 0 rfl) rfl acb) ?_
  refine wm ?_
  refine wv (OV.eql rfl rfl) ?_
  refine WL.nil ?_
  refine kg (hK_11' [(0, zP b), (3, zU (b4 r_0 r_1)), (6, zP b_1'), (21, Value.agg [zU 110, zU 10, zU 114, zU 13, zU 116, zU 9].toArray), (22, zI 0), (28, zB (decide (110 = b4 r_0 r_1)))] _ ?_)
  refine b5 (b := decide (110 = b4 r_0 r_1)) rfl (fun hb => ?_) (fun hb => ?_)
  ·replace h := j4 h hb
   refine a6 (fun _ hK_12' => ?_)
   refine a4 ?_
   refine wm ?_
   refine wv (OV.nilCheck rfl) ?_
   refine wv (OV.fieldAddr0 rfl d5) ?_
   refine wv (OV.load rfl (At.own 1 rfl) rfl a7) ?_
   obtain ⟨o_1', h⟩ := h
   refine wv (OV.add rfl rfl o_1') ?_
   refine wv (OV.nilCheck rfl) ?_
   refine wv (OV.fieldAddr0 rfl d5) ?_
   refine WL.store (vs := [zI (r_1 + 1)]) (cs' := [st r_0, zI (r_1 + 1)]) 1 rfl rfl rfl rfl g9 (Nat.le_of_ble_eq_true rfl) rfl rfl rfl ?_
   refine WL.nil ?_
   refine kg (hK_12' [(6, zP b_1')] _ ?_)
   refine a6 (fun _ hK_13' => ?_)
   refine a4 ?_
   refine wv (OV.fieldAddr0 rfl adb) ?_
   refine wv (OV.load rfl (At.own 0 rfl) rfl acb) ?_
   refine wa ?_
   refine WL.nil ?_
   refine kg (hK_13' [(2, zU 10)] _ ?_)
   refine b9 ?_
   exact hE.ret [1] rfl rfl (.inl ⟨_, _, _, h, rfl⟩) (d8.of1 rfl (RV.tmp rfl))
  ·replace h := i9 h hb
   refine b7 ?_
   refine kg (hK_9' [(0, zP b), (3, zU (b4 r_0 r_1)), (21, Value.agg [zU 110, zU 10, zU 114, zU 13, zU 116, zU 9].toArray), (22, zI 0)] _ ?_)
   refine a4 ?_
   refine wv (OV.add rfl rfl ⟨by decide, by decide⟩) ?_
   refine wm ?_
   refine WL.nil ?_
   refine kg (hK_6' [(0, zP b), (3, zU (b4 r_0 r_1)), (21, Value.agg [zU 110, zU 10, zU 114, zU 13, zU 116, zU 9].toArray), (22, zI 1)] _ ?_)
   refine RC.succ (fun K0_14' hK_14' => ?_)
   refine a6 (fun _ hK_15' => ?_)
   refine a4 ?_
   refine wv (OV.lss rfl rfl) ?_
   refine WL.nil ?_
   refine kg (hK_15' [(0, zP b), (3, zU (b4 r_0 r_1)), (21, Value.agg [zU 110, zU 10, zU 114, zU 13, zU 116, zU 9].toArray), (22, zI 1), (23, zB true)] _ ?_)
   refine a6 (fun _ hK_16' => ?_)
   refine aai rfl ?_
   refine b7 ?_
   refine kg (hK_16' [(0, zP b), (3, zU (b4 r_0 r_1)), (21, Value.agg [zU 110, zU 10, zU 114, zU 13, zU 116, zU 9].toArray), (22, zI 1)] _ ?_)
   refine a6 (fun _ hK_17' => ?_)
   refine g8 ?_
   refine a6 (fun _ hK_18' => ?_)
   refine a4 ?_
   refine wv (OV.indexM (vs := [zU 114, zU 13]) rfl rfl ahb (by decide) agy rfl) ?_
   refine WL.make (MV.alloc afj) rfl rfl rfl (fun b_2' => ?_)
   refine WL.storeW (vs := [zU 114, zU 13]) 0 rfl rfl rfl rfl rfl afg rfl rfl rfl ?_
   refine WL.nil ?_
   refine kg (hK_18' [(0, zP b), (3, zU (b4 r_0 r_1)), (6, zP b_2'), (21, Value.agg [zU 110, zU 10, zU 114, zU 13, zU 116, zU 9].toArray), (22, zI 1)] _ ?_)
   refine a6 (fun _ hK_19' => ?_)
   refine a4 ?_
   refine wv (OV.fieldAddr0 rfl adh) ?_
   refine wv (OV.load rfl (At.own 0 rfl) rfl acb) ?_
   refine wm ?_
   refine wv (OV.eql rfl rfl) ?_
   refine WL.nil ?_
   refine kg (hK_19' [(0, zP b), (3, zU (b4 r_0 r_1)), (6, zP b_2'), (21, Value.agg [zU 110, zU 10, zU 114, zU 13, zU 116, zU 9].toArray), (22, zI 1), (28, zB (decide (114 = b4 r_0 r_1)))] _ ?_)
   refine b5 (b := decide (114 = b4 r_0 r_1)) rfl (fun hb => ?_) (fun hb => ?_)
   ·replace h := j4 h hb
    refine a6 (fun _ hK_20' => ?_)
    refine a4 ?_
    refine wm ?_
    refine wv (OV.nilCheck rfl) ?_
    refine wv (OV.fieldAddr0 rfl d5) ?_
    refine wv (OV.load rfl (At.own 2 rfl) rfl a7) ?_
    obtain ⟨o_2', h⟩ := h
    refine wv (OV.add rfl rfl o_2') ?_
    refine wv (OV.nilCheck rfl) ?_
    refine wv (OV.fieldAddr0 rfl d5) ?_
    refine WL.store (vs := [zI (r_1 + 1)]) (cs' := [st r_0, zI (r_1 + 1)]) 2 rfl rfl rfl rfl g9 (Nat.le_of_ble_eq_true rfl) rfl rfl rfl ?_
    refine WL.nil ?_
    refine kg (hK_20' [(6, zP b_2')] _ ?_)
    refine a6 (fun _ hK_21' => ?_)
    refine a4 ?_
    refine wv (OV.fieldAddr0 rfl adb) ?_
    refine wv (OV.load rfl (At.own 0 rfl) rfl acb) ?_
    refine wa ?_
    refine WL.nil ?_
    refine kg (hK_21' [(2, zU 13)] _ ?_)
    refine b9 ?_
    exact hE.ret [2] rfl rfl (.inl ⟨_, _, _, h, rfl⟩) (d8.of1 rfl (RV.tmp rfl))
   ·replace h := i9 h hb
    refine b7 ?_
    refine kg (hK_17' [(0, zP b), (3, zU (b4 r_0 r_1)), (21, Value.agg [zU 110, zU 10, zU 114, zU 13, zU 116, zU 9].toArray), (22, zI 1)] _ ?_)
    refine a4 ?_
    refine wv (OV.add rfl rfl ⟨by decide, by decide⟩) ?_
    refine wm ?_
    refine WL.nil ?_
    refine kg (hK_14' [(0, zP b), (3, zU (b4 r_0 r_1)), (21, Value.agg [zU 110, zU 10, zU 114, zU 13, zU 116, zU 9].toArray), (22, zI 2)] _ ?_)
    refine RC.succ (fun K0_22' hK_22' => ?_)
    refine a6 (fun _ hK_23' => ?_)
    refine a4 ?_
    refine wv (OV.lss rfl rfl) ?_
    refine WL.nil ?_
    refine kg (hK_23' [(0, zP b), (3, zU (b4 r_0 r_1)), (21, Value.agg [zU 110, zU 10, zU 114, zU 13, zU 116, zU 9].toArray), (22, zI 2), (23, zB true)] _ ?_)
    refine a6 (fun _ hK_24' => ?_)
    refine aai rfl ?_
    refine b7 ?_
    refine kg (hK_24' [(0, zP b), (3, zU (b4 r_0 r_1)), (21, Value.agg [zU 110, zU 10, zU 114, zU 13, zU 116, zU 9].toArray), (22, zI 2)] _ ?_)
    refine a6 (fun _ hK_25' => ?_)
    refine g8 ?_
    refine a6 (fun _ hK_26' => ?_)
    refine a4 ?_
    refine wv (OV.indexM (vs := [zU 116, zU 9]) rfl rfl ahb (by decide) agy rfl) ?_
    refine WL.make (MV.alloc afj) rfl rfl rfl (fun b_3' => ?_)
    refine WL.storeW (vs := [zU 116, zU 9]) 0 rfl rfl rfl rfl rfl afg rfl rfl rfl ?_
    refine WL.nil ?_
    refine kg (hK_26' [(0, zP b), (3, zU (b4 r_0 r_1)), (6, zP b_3'), (21, Value.agg [zU 110, zU 10, zU 114, zU 13, zU 116, zU 9].toArray), (22, zI 2)] _ ?_)
    refine a6 (fun _ hK_27' => ?_)
    refine a4 ?_
    refine wv (OV.fieldAddr0 rfl adh) ?_
    refine wv (OV.load rfl (At.own 0 rfl) rfl acb) ?_
    refine wm ?_
    refine wv (OV.eql rfl rfl) ?_
    refine WL.nil ?_
    refine kg (hK_27' [(0, zP b), (3, zU (b4 r_0 r_1)), (6, zP b_3'), (21, Value.agg [zU 110, zU 10, zU 114, zU 13, zU 116, zU 9].toArray), (22, zI 2), (28, zB (decide (116 = b4 r_0 r_1)))] _ ?_)
    refine b5 (b := decide (116 = b4 r_0 r_1)) rfl (fun hb => ?_) (fun hb => ?_)
    ·replace h := j4 h hb
     refine a6 (fun _ hK_28' => ?_)
     refine a4 ?_
     refine wm ?_
     refine wv (OV.nilCheck rfl) ?_
     refine wv (OV.fieldAddr0 rfl d5) ?_
     refine wv (OV.load rfl (At.own 3 rfl) rfl a7) ?_
     obtain ⟨o_3', h⟩ := h
     refine wv (OV.add rfl rfl o_3') ?_
     refine wv (OV.nilCheck rfl) ?_
     refine wv (OV.fieldAddr0 rfl d5) ?_
     refine WL.store (vs := [zI (r_1 + 1)]) (cs' := [st r_0, zI (r_1 + 1)]) 3 rfl rfl rfl rfl g9 (Nat.le_of_ble_eq_true rfl) rfl rfl rfl ?_
     refine WL.nil ?_
     refine kg (hK_28' [(6, zP b_3')] _ ?_)
     refine a6 (fun _ hK_29' => ?_)
     refine a4 ?_
     refine wv (OV.fieldAddr0 rfl adb) ?_
     refine wv (OV.load rfl (At.own 0 rfl) rfl acb) ?_
     refine wa ?_
     refine WL.nil ?_
     refine kg (hK_29' [(2, zU 9)] _ ?_)
     refine b9 ?_
     exact hE.ret [3] rfl rfl (.inl ⟨_, _, _, h, rfl⟩) (d8.of1 rfl (RV.tmp rfl))
    ·replace h := i9 h hb
     refine b7 ?_
     refine kg (hK_25' [(0, zP b), (3, zU (b4 r_0 r_1)), (21, Value.agg [zU 110, zU 10, zU 114, zU 13, zU 116, zU 9].toArray), (22, zI 2)] _ ?_)
     refine a4 ?_
     refine wv (OV.add rfl rfl ⟨by decide, by decide⟩) ?_
     refine wm ?_
     refine WL.nil ?_
     refine kg (hK_22' [(0, zP b), (3, zU (b4 r_0 r_1)), (21, Value.agg [zU 110, zU 10, zU 114, zU 13, zU 116, zU 9].toArray), (22, zI 3)] _ ?_)
     refine RC.succ (fun K0_30' hK_30' => ?_)
     refine a6 (fun _ hK_31' => ?_)
     refine a4 ?_
     refine wv (OV.lss rfl rfl) ?_
     refine WL.nil ?_
     refine kg (hK_31' [(0, zP b), (3, zU (b4 r_0 r_1)), (21, Value.agg [zU 110, zU 10, zU 114, zU 13, zU 116, zU 9].toArray), (22, zI 3), (23, zB false)] _ ?_)
     refine a6 (fun _ hK_32' => ?_)
     refine n6 rfl ?_
     refine t8 ?_
     refine kg (hK_4' [(0, zP b), (3, zU (b4 r_0 r_1))] _ ?_)
     refine a6 (fun _ hK_33' => ?_)
     refine a6 (fun _ hK_34' => ?_)
     refine a4 ?_
     refine wm ?_
     refine wv (OV.eql rfl rfl) ?_
     refine WL.nil ?_
     refine kg (hK_34' [(0, zP b), (3, zU (b4 r_0 r_1)), (40, zB (decide (b4 r_0 r_1 = 120)))] _ ?_)
     refine b5 (b := decide (b4 r_0 r_1 = 120)) rfl (fun hb => ?_) (fun hb => ?_)
     ·replace h := j4 h hb
      refine a6 (fun _ hK_35' => ?_)
      refine a4 ?_
      refine wm ?_
      refine wv (OV.nilCheck rfl) ?_
      refine wv (OV.fieldAddr0 rfl d5) ?_
      refine wv (OV.load rfl (At.own 3 rfl) rfl a7) ?_
      obtain ⟨o_4', h⟩ := h
      refine wv (OV.add rfl rfl o_4') ?_
      refine wv (OV.nilCheck rfl) ?_
      refine wv (OV.fieldAddr0 rfl d5) ?_
      refine WL.store (vs := [zI (r_1 + 1)]) (cs' := [st r_0, zI (r_1 + 1)]) 3 rfl rfl rfl rfl g9 (Nat.le_of_ble_eq_true rfl) rfl rfl rfl ?_
      refine WL.nil ?_
      refine kg (hK_35' [(0, zP b)] _ ?_)
      refine a6 (fun _ hK_36' => ?_)
      refine a4 ?_
      refine wm ?_
      obtain ⟨o_5', h⟩ := h
      refine WL.pick (H' := [HA.blk b (.cells [st r_0, zI (r_1 + 1)].toArray 222 (0, 0)), HA.blk b_3' (.cells [zU 116, zU 9].toArray 213 (0, 0)), HA.blk b_2' (.cells [zU 114, zU 13].toArray 213 (0, 0)), HA.blk b_1' (.cells [zU 110, zU 10].toArray 213 (0, 0))]) [3, 0, 1, 2] rfl rfl ?_
      refine WL.callS ak8 rfl (apv b r_0 (r_1 + 1) o_5') rfl trivial rfl rfl (fun r H' hS => ?_) (fun c H' hS => ?_)
      ·rcases hS with ⟨r_1', at0, hc, ho⟩ | ⟨e, at0_1', hc, ho⟩ <;> cases ho
       replace h := h.1 r_1' at0 hc
       refine wa ?_
       refine WL.nil ?_
       refine kg (hK_36' [(0, zP b), (7, zU r_1')] _ ?_)
       refine a6 (fun _ hK_37' => ?_)
       refine a4 ?_
       refine wm ?_
       refine wv (OV.shl rfl rfl ⟨by decide, by decide⟩) ?_
       refine wm ?_
       obtain ⟨o_6', h⟩ := h
       refine WL.callS ak8 rfl (apv b r_0 at0 o_6') rfl trivial rfl rfl (fun r H' hS => ?_) (fun c H' hS => ?_)
       ·rcases hS with ⟨r_2', at0_2', hc, ho⟩ | ⟨e_1', at0_3', hc, ho⟩ <;> cases ho
        replace h := h.1 r_2' at0_2' hc
        refine wv (OV.bits_or rfl rfl) ?_
        refine wa ?_
        refine WL.nil ?_
        refine kg (hK_37' [(2, zU (bits .or .u8 (IntKind.wrap .u8 (r_1' * 2 ^ (4 : Int).toNat)) r_2'))] _ ?_)
        refine b9 ?_
        exact hE.ret [0] rfl rfl (.inl ⟨_, _, _, h, rfl⟩) (d8.of1 rfl (RV.tmp rfl))
       ·rcases hS with ⟨r_2', at0_2', hc, ho⟩ | ⟨e_1', at0_3', hc, ho⟩ <;> cases ho
        replace h := h.2 e_1' at0_3' hc
        exact hE.pan [0] rfl rfl (.inr ⟨_, _, _, h, rfl⟩)
      ·rcases hS with ⟨r_1', at0, hc, ho⟩ | ⟨e, at0_1', hc, ho⟩ <;> cases ho
       replace h := h.2 e at0_1' hc
       exact hE.pan [0] rfl rfl (.inr ⟨_, _, _, h, rfl⟩)
     ·replace h := i9 h hb
      refine b7 ?_
      refine kg (hK_33' [(0, zP b), (3, zU (b4 r_0 r_1))] _ ?_)
      refine a6 (fun _ hK_38' => ?_)
      refine a6 (fun _ hK_39' => ?_)
      refine a4 ?_
      refine wm ?_
      refine wv (OV.lss rfl rfl) ?_
      refine wm ?_
      refine WL.cut 3 [(0, zP b), (3, zU (b4 r_0 r_1)), (60, zB ((decide (b4 r_0 r_1 < 32)) || (decide (126 < b4 r_0 r_1))))] ?_ (fun K0_40' hK_40' => ?_)
      rotate_left
      ·refine WL.split (decide (b4 r_0 r_1 < 32)) (fun hb => ?_) (fun hb => ?_)
       ·refine WL.set 57 rfl (congrArg zB hb) ?_
        refine wk ?_
        refine wk ?_
        refine wv (OV.pickT rfl rfl) ?_
        refine WL.set 60 rfl (oT (v := decide (126 < b4 r_0 r_1)) hb) ?_
        exact WL.end_ (kg hK_40')
       ·refine WL.set 57 rfl (congrArg zB hb) ?_
        refine wm ?_
        refine wv (OV.gtr rfl rfl) ?_
        refine wv (OV.pickF rfl rfl) ?_
        refine WL.set 60 rfl (oF (v := decide (126 < b4 r_0 r_1)) hb) ?_
        exact WL.end_ (kg hK_40')
      refine wm ?_
      refine WL.cut 7 [(0, zP b), (3, zU (b4 r_0 r_1)), (68, zB (((decide (b4 r_0 r_1 < 32)) || (decide (126 < b4 r_0 r_1))) || ((decide (48 ≤ b4 r_0 r_1)) && (decide (b4 r_0 r_1 ≤ 57)))))] ?_ (fun K0_42' hK_42' => ?_)
      rotate_left
      ·refine WL.split ((decide (b4 r_0 r_1 < 32)) || (decide (126 < b4 r_0 r_1))) (fun hb => ?_) (fun hb => ?_)
       ·refine WL.set 61 rfl (congrArg zB hb) ?_
        refine wk ?_
        refine wk ?_
        refine wk ?_
        refine wk ?_
        refine wk ?_
        refine wk ?_
        refine wv (OV.pickT rfl rfl) ?_
        refine WL.set 68 rfl (oT (v := (decide (48 ≤ b4 r_0 r_1)) && (decide (b4 r_0 r_1 ≤ 57))) hb) ?_
        exact WL.end_ (kg hK_42')
       ·refine WL.set 61 rfl (congrArg zB hb) ?_
        refine wm ?_
        refine wv (OV.geq rfl rfl) ?_
        refine wm ?_
        refine WL.cut 3 [(0, zP b), (3, zU (b4 r_0 r_1)), (61, zB false), (67, zB ((decide (48 ≤ b4 r_0 r_1)) && (decide (b4 r_0 r_1 ≤ 57))))] ?_ (fun K0_41' hK_41' => ?_)
        rotate_left
        ·refine WL.split (decide (48 ≤ b4 r_0 r_1)) (fun hb => ?_) (fun hb => ?_)
         ·refine WL.set 64 rfl (congrArg zB hb) ?_
          refine wm ?_
          refine wv (OV.leq rfl rfl) ?_
          refine wv (OV.pickT rfl rfl) ?_
          refine WL.set 67 rfl (bT (v := decide (b4 r_0 r_1 ≤ 57)) hb) ?_
          exact WL.end_ (kg hK_41')
         ·refine WL.set 64 rfl (congrArg zB hb) ?_
          refine wk ?_
          refine wk ?_
          refine wv (OV.pickF rfl rfl) ?_
          refine WL.set 67 rfl (bF (v := decide (b4 r_0 r_1 ≤ 57)) hb) ?_
          exact WL.end_ (kg hK_41')
        refine wv (OV.pickF rfl rfl) ?_
        refine WL.set 68 rfl (oF (v := (decide (48 ≤ b4 r_0 r_1)) && (decide (b4 r_0 r_1 ≤ 57))) hb) ?_
        exact WL.end_ (kg hK_42')
      refine wm ?_
      refine WL.cut 7 [(0, zP b), (3, zU (b4 r_0 r_1)), (76, zB ((((decide (b4 r_0 r_1 < 32)) || (decide (126 < b4 r_0 r_1))) || ((decide (48 ≤ b4 r_0 r_1)) && (decide (b4 r_0 r_1 ≤ 57)))) || ((decide (97 ≤ b4 r_0 r_1)) && (decide (b4 r_0 r_1 ≤ 122)))))] ?_ (fun K0_44' hK_44' => ?_)
      rotate_left
      ·refine WL.split (((decide (b4 r_0 r_1 < 32)) || (decide (126 < b4 r_0 r_1))) || ((decide (48 ≤ b4 r_0 r_1)) && (decide (b4 r_0 r_1 ≤ 57)))) (fun hb => ?_) (fun hb => ?_)
       ·refine WL.set 69 rfl (congrArg zB hb) ?_
        refine wk ?_
        refine wk ?_
        refine wk ?_
        refine wk ?_
        refine wk ?_
        refine wk ?_
        refine wv (OV.pickT rfl rfl) ?_
        refine WL.set 76 rfl (oT (v := (decide (97 ≤ b4 r_0 r_1)) && (decide (b4 r_0 r_1 ≤ 122))) hb) ?_
        exact WL.end_ (kg hK_44')
       ·refine WL.set 69 rfl (congrArg zB hb) ?_
        refine wm ?_
        refine wv (OV.geq rfl rfl) ?_
        refine wm ?_
        refine WL.cut 3 [(0, zP b), (3, zU (b4 r_0 r_1)), (69, zB false), (75, zB ((decide (97 ≤ b4 r_0 r_1)) && (decide (b4 r_0 r_1 ≤ 122))))] ?_ (fun K0_43' hK_43' => ?_)
        rotate_left
        ·refine WL.split (decide (97 ≤ b4 r_0 r_1)) (fun hb => ?_) (fun hb => ?_)
         ·refine WL.set 72 rfl (congrArg zB hb) ?_
          refine wm ?_
          refine wv (OV.leq rfl rfl) ?_
          refine wv (OV.pickT rfl rfl) ?_
          refine WL.set 75 rfl (bT (v := decide (b4 r_0 r_1 ≤ 122)) hb) ?_
          exact WL.end_ (kg hK_43')
         ·refine WL.set 72 rfl (congrArg zB hb) ?_
          refine wk ?_
          refine wk ?_
          refine wv (OV.pickF rfl rfl) ?_
          refine WL.set 75 rfl (bF (v := decide (b4 r_0 r_1 ≤ 122)) hb) ?_
          exact WL.end_ (kg hK_43')
        refine wv (OV.pickF rfl rfl) ?_
        refine WL.set 76 rfl (oF (v := (decide (97 ≤ b4 r_0 r_1)) && (decide (b4 r_0 r_1 ≤ 122))) hb) ?_
        exact WL.end_ (kg hK_44')
      refine wm ?_
      refine WL.cut 7 [(0, zP b), (3, zU (b4 r_0 r_1)), (84, zB (((((decide (b4 r_0 r_1 < 32)) || (decide (126 < b4 r_0 r_1))) || ((decide (48 ≤ b4 r_0 r_1)) && (decide (b4 r_0 r_1 ≤ 57)))) || ((decide (97 ≤ b4 r_0 r_1)) && (decide (b4 r_0 r_1 ≤ 122)))) || ((decide (65 ≤ b4 r_0 r_1)) && (decide (b4 r_0 r_1 ≤ 90)))))] ?_ (fun K0_46' hK_46' => ?_)
      rotate_left
      ·refine WL.split ((((decide (b4 r_0 r_1 < 32)) || (decide (126 < b4 r_0 r_1))) || ((decide (48 ≤ b4 r_0 r_1)) && (decide (b4 r_0 r_1 ≤ 57)))) || ((decide (97 ≤ b4 r_0 r_1)) && (decide (b4 r_0 r_1 ≤ 122)))) (fun hb => ?_) (fun hb => ?_)
       ·refine WL.set 77 rfl (congrArg zB hb) ?_
        refine wk ?_
        refine wk ?_
        refine wk ?_
        refine wk ?_
        refine wk ?_
        refine wk ?_
        refine wv (OV.pickT rfl rfl) ?_
        refine WL.set 84 rfl (oT (v := (decide (65 ≤ b4 r_0 r_1)) && (decide (b4 r_0 r_1 ≤ 90))) hb) ?_
        exact WL.end_ (kg hK_46')
       ·refine WL.set 77 rfl (congrArg zB hb) ?_
        refine wm ?_
        refine wv (OV.geq rfl rfl) ?_
        refine wm ?_
        refine WL.cut 3 [(0, zP b), (3, zU (b4 r_0 r_1)), (77, zB false), (83, zB ((decide (65 ≤ b4 r_0 r_1)) && (decide (b4 r_0 r_1 ≤ 90))))] ?_ (fun K0_45' hK_45' => ?_)
        rotate_left
        ·refine WL.split (decide (65 ≤ b4 r_0 r_1)) (fun hb => ?_) (fun hb => ?_)
         ·refine WL.set 80 rfl (congrArg zB hb) ?_
          refine wm ?_
          refine wv (OV.leq rfl rfl) ?_
          refine wv (OV.pickT rfl rfl) ?_
          refine WL.set 83 rfl (bT (v := decide (b4 r_0 r_1 ≤ 90)) hb) ?_
          exact WL.end_ (kg hK_45')
         ·refine WL.set 80 rfl (congrArg zB hb) ?_
          refine wk ?_
          refine wk ?_
          refine wv (OV.pickF rfl rfl) ?_
          refine WL.set 83 rfl (bF (v := decide (b4 r_0 r_1 ≤ 90)) hb) ?_
          exact WL.end_ (kg hK_45')
        refine wv (OV.pickF rfl rfl) ?_
        refine WL.set 84 rfl (oF (v := (decide (65 ≤ b4 r_0 r_1)) && (decide (b4 r_0 r_1 ≤ 90))) hb) ?_
        exact WL.end_ (kg hK_46')
      refine WL.nil ?_
      refine kg (hK_39' [(0, zP b), (3, zU (b4 r_0 r_1)), (84, zB (((((decide (b4 r_0 r_1 < 32)) || (decide (126 < b4 r_0 r_1))) || ((decide (48 ≤ b4 r_0 r_1)) && (decide (b4 r_0 r_1 ≤ 57)))) || ((decide (97 ≤ b4 r_0 r_1)) && (decide (b4 r_0 r_1 ≤ 122)))) || ((decide (65 ≤ b4 r_0 r_1)) && (decide (b4 r_0 r_1 ≤ 90)))))] _ ?_)
      refine b5 (b := ((((decide (b4 r_0 r_1 < 32)) || (decide (126 < b4 r_0 r_1))) || ((decide (48 ≤ b4 r_0 r_1)) && (decide (b4 r_0 r_1 ≤ 57)))) || ((decide (97 ≤ b4 r_0 r_1)) && (decide (b4 r_0 r_1 ≤ 122)))) || ((decide (65 ≤ b4 r_0 r_1)) && (decide (b4 r_0 r_1 ≤ 90)))) rfl (fun hb => ?_) (fun hb => ?_)
      ·replace h := j4 h hb
       refine a4 ?_
       refine wm ?_
       refine wm ?_
       refine wv (OV.nilCheck rfl) ?_
       refine wv (OV.fieldAddr0 rfl d5) ?_
       refine wv (OV.load rfl (At.own 3 rfl) rfl a7) ?_
       refine WL.callS ac8 rfl (aec b r_1) rfl trivial rfl rfl (fun r H' hS => by cases hS) (fun c H' hS => ?_)
       cases hS
       exact hE.pan [3] rfl rfl (.inr ⟨_, _, _, h, rfl⟩)
      ·replace h := i9 h hb
       refine b7 ?_
       refine kg (hK_38' [(0, zP b), (3, zU (b4 r_0 r_1))] _ ?_)
       refine a6 (fun _ hK_47' => ?_)
       refine a4 ?_
       refine wm ?_
       refine wv (OV.nilCheck rfl) ?_
       refine wv (OV.fieldAddr0 rfl d5) ?_
       refine wv (OV.load rfl (At.own 3 rfl) rfl a7) ?_
       obtain ⟨o_14', h⟩ := h
       refine wv (OV.add rfl rfl o_14') ?_
       refine wv (OV.nilCheck rfl) ?_
       refine wv (OV.fieldAddr0 rfl d5) ?_
       refine WL.store (vs := [zI (r_1 + 1)]) (cs' := [st r_0, zI (r_1 + 1)]) 3 rfl rfl rfl rfl g9 (Nat.le_of_ble_eq_true rfl) rfl rfl rfl ?_
       refine WL.nil ?_
       refine kg (hK_47' [(3, zU (b4 r_0 r_1))] _ ?_)
       refine a6 (fun _ hK_48' => ?_)
       refine a4 ?_
       refine wm ?_
       refine wa ?_
       refine WL.nil ?_
       refine kg (hK_48' [(2, zU (b4 r_0 r_1))] _ ?_)
       refine b9 ?_
       exact hE.ret [3] rfl rfl (.inl ⟨_, _, _, h, rfl⟩) (d8.of1 rfl (RV.tmp rfl))
theorem az3 (hi lo : Int) (h1 : 0 ≤ hi ∧ hi ≤ 15) (h2 : 0 ≤ lo ∧ lo ≤ 15) : bits .or .u8 (IntKind.wrap .u8 (hi * 2 ^ (4 : Int).toNat)) lo = 16 * hi + lo := by
 obtain ⟨a, ha, rfl⟩ : ∃ a : Nat, a < 16 ∧ hi = (a : Int) := ⟨hi.toNat, by omega, by omega⟩
 obtain ⟨b, hb, rfl⟩ : ∃ b : Nat, b < 16 ∧ lo = (b : Int) := ⟨lo.toNat, by omega, by omega⟩
 clear h1 h2
 revert a b; decide
theorem af6 {t : List UInt8} {a r q : Int} (h : ahd t a = .ok (r, q)) : a < t.length ∧ 0 ≤ r ∧ r ≤ 15 ∧ q = a + 1 := by
 unfold ahd at h
 split at h
 ·rename_i h1
  cases h
  exact ⟨h1.1, h1.2, af3.2, rfl⟩
 ·cases h
abbrev z6 (te : TypeId) (fre : Nat × Nat) : List (Nat × Obj) := [(1, .cells [zU 110, zU 10, zU 114, zU 13, zU 116, zU 9].toArray te fre)]
theorem apm (b : Nat) (te : TypeId) (fre : Nat × Nat) (t : List UInt8) (a : Int) (h : 0 ≤ a ∧ a ≤ t.length ∧ t.length ≤ 9223372036854775807) : c8 Tryd.prog 181 [.pointer (some ⟨b, 0, none⟩)] (z6 te fre) [ahx b t a] (aw9 b t (fun r => .int .u8 r) (ajl t a)) := by
 refine (auh b te fre t a (fun r t' q => t' = t ∧ ajl t a = .ok (r, q)) (fun v t' _ => t' = t ∧ ∃ e, ajl t a = .error e ∧ v = n8 10 e) ?_).weak ?_
 ·have hb := aa5 t a
  unfold aia ajl f9
  refine ⟨h.1, ?_⟩
  by_cases h1 : a < t.length
  ·rw [if_neg (by simp [h1]), if_pos h1]
   have hI : I64 (a + 1) := ⟨by omega, by omega⟩
   generalize b4 t a = c at hb ⊢
   by_cases e1 : c = 110
   ·subst e1; simp [hI]
   ·by_cases e2 : c = 114
    ·subst e2; simp [hI]
    ·by_cases e3 : c = 116
     ·subst e3; simp [hI]
     ·rw [if_neg (by simpa using fun e => e1 e.symm), if_neg (by simpa using fun e => e2 e.symm), if_neg (by simpa using fun e => e3 e.symm), if_neg e1, if_neg e2, if_neg e3]
      by_cases e4 : c = 120
      ·rw [if_pos (by simpa using e4), if_pos e4]
       refine ⟨hI, ⟨by omega, by omega, h.2.2⟩, fun hi p hp => ⟨?_, fun lo q hq => ?_, fun e q he => ?_⟩, fun e q he => ?_⟩
       ·have := af6 hp; exact ⟨by omega, by omega, h.2.2⟩
       ·simp only [hp, hq]
        have h3 := af6 hp
        have h4 := af6 hq
        rw [az3 hi lo ⟨h3.2.1, h3.2.2.1⟩ ⟨h4.2.1, h4.2.2.1⟩]
        simp
       ·simp only [hp]; simp [he]
       ·simp [he]
      ·rw [if_neg (by simpa using e4), if_neg e4]
       by_cases e5 : c < 32 ∨ 126 < c ∨ (48 ≤ c ∧ c ≤ 57) ∨ (97 ≤ c ∧ c ≤ 122) ∨ (65 ≤ c ∧ c ≤ 90)
       ·rw [if_pos (by simp; omega), if_pos e5]; exact ⟨rfl, _, rfl, rfl⟩
       ·rw [if_neg (by simp; omega), if_neg e5]; exact ⟨hI, rfl, rfl⟩
  ·rw [if_pos (by simp [h1]), if_neg h1]; exact ⟨rfl, _, rfl, rfl⟩
 ·rintro o (⟨r, t', q, ⟨rfl, hm⟩, rfl⟩ | ⟨v, t', q, ⟨rfl, e, hm, rfl⟩, rfl⟩)
  ·exact .inl ⟨r, q, hm, rfl⟩
  ·exact .inr ⟨e, q, hm, rfl⟩
def ar5 (r_0 : List UInt8) (r_1 : Int) (barred : List UInt8) (K : Int → (List UInt8) → Int → Prop) (KP : Value → (List UInt8) → Int → Prop) : Prop :=
 (0 ≤ r_1) ∧
 (if ((f9 r_0 r_1) && (decide (b4 r_0 r_1 = 92))) = true then
  (I64 (r_1 + 1)) ∧
  (0 ≤ r_1 + 1 ∧ r_1 + 1 ≤ r_0.length ∧ r_0.length ≤ 9223372036854775807) ∧
  (∀ (r_1' : Int) (at0 : Int), ajl r_0 (r_1 + 1) = .ok (r_1', at0) →
   K r_1' r_0 at0) ∧
  (∀ (e : Int) (at0_1' : Int), ajl r_0 (r_1 + 1) = .error e →
   KP (n8 10 e) r_0 at0_1')
 else
  (if ((((!(f9 r_0 r_1)) || (decide (b4 r_0 r_1 < 32))) || (decide (126 < b4 r_0 r_1))) || (decide (0 ≤ Lib.indexByte barred (b4 r_0 r_1).toNat.toUInt8))) = true then
   KP (n8 10 r_1) r_0 r_1
  else
   (I64 (r_1 + 1)) ∧
   K (b4 r_0 r_1) r_0 (r_1 + 1)))
theorem azf (b : Nat) (te : TypeId) (fre : Nat × Nat) (r_0 : List UInt8) (r_1 : Int) (barred : List UInt8) (K : Int → (List UInt8) → Int → Prop) (KP : Value → (List UInt8) → Int → Prop) (h : ar5 r_0 r_1 barred K KP) :
  c8 Tryd.prog 175 [zP b, st barred] [(1, .cells [zU 110, zU 10, zU 114, zU 13, zU 116, zU 9].toArray te fre)] [HA.blk b (.cells [st r_0, zI r_1].toArray 222 (0, 0))] (fun o => (∃ (v : Int) (d_0 : List UInt8) (d_1 : Int), K v d_0 d_1 ∧ o = .ret (zU v) [HA.blk b (.cells [st d_0, zI d_1].toArray 222 (0, 0))]) ∨ (∃ (pv : Value) (d_0 : List UInt8) (d_1 : Int), KP pv d_0 d_1 ∧ o = .pan [{ v := pv, recovered := false }] [HA.blk b (.cells [st d_0, zI d_1].toArray 222 (0, 0))])) := by
 unfold ar5 at h
 refine c6 (n := 56) (L0 := [(0, zP b), (1, st barred)]) Tryd.func175 rfl rfl rfl rfl (fun w0 M Q hE => ?_)
 refine a6 (fun _ hK => ?_)
 refine a4 ?_
 refine wa ?_
 refine WL.nil ?_
 refine kg (hK [(0, zP b), (1, st barred)] _ ?_)
 refine a6 (fun _ hK_1' => ?_)
 refine a4 ?_
 refine wm ?_
 obtain ⟨o, h⟩ := h
 refine WL.call (A := []) acf rfl (ac6 b r_0 r_1 o) rfl ⟨.inl ⟨0, rfl⟩, trivial⟩ rfl rfl ?_
 refine wm ?_
 refine wv (OV.extract 0 rfl rfl) ?_
 refine wv (OV.extract 1 rfl rfl) ?_
 refine wa ?_
 refine wa ?_
 refine WL.nil ?_
 refine kg (hK_1' [(0, zP b), (1, st barred), (5, zU (b4 r_0 r_1)), (6, zB (f9 r_0 r_1))] _ ?_)
 refine a6 (fun _ hK_2' => ?_)
 refine a6 (fun _ hK_3' => ?_)
 refine a4 ?_
 refine wm ?_
 refine wm ?_
 refine WL.cut 3 [(0, zP b), (1, st barred), (5, zU (b4 r_0 r_1)), (6, zB (f9 r_0 r_1)), (16, zB ((f9 r_0 r_1) && (decide (b4 r_0 r_1 = 92))))] ?_ (fun K0_4' hK_4' => ?_)
 rotate_left
 ·refine WL.split (f9 r_0 r_1) (fun hb => ?_) (fun hb => ?_)
  ·refine WL.set 13 rfl (congrArg zB hb) ?_
   refine wm ?_
   refine wv (OV.eql rfl rfl) ?_
   refine wv (OV.pickT rfl rfl) ?_
   refine WL.set 16 rfl (bT (v := decide (b4 r_0 r_1 = 92)) hb) ?_
   exact WL.end_ (kg hK_4')
  ·refine WL.set 13 rfl (congrArg zB hb) ?_
   refine wk ?_
   refine wk ?_
   refine wv (OV.pickF rfl rfl) ?_
   refine WL.set 16 rfl (bF (v := decide (b4 r_0 r_1 = 92)) hb) ?_
   exact WL.end_ (kg hK_4')
 refine WL.nil ?_
 refine kg (hK_3' [(0, zP b), (1, st barred), (5, zU (b4 r_0 r_1)), (6, zB (f9 r_0 r_1)), (16, zB ((f9 r_0 r_1) && (decide (b4 r_0 r_1 = 92))))] _ ?_)
 refine b5 (b := (f9 r_0 r_1) && (decide (b4 r_0 r_1 = 92))) rfl (fun hb => ?_) (fun hb => ?_)
 ·replace h := j4 h hb
  refine a6 (fun _ hK_5' => ?_)
  refine a4 ?_
  refine wm ?_
  refine wv (OV.nilCheck rfl) ?_
  refine wv (OV.fieldAddr0 rfl d5) ?_
  refine wv (OV.load rfl (At.own 0 rfl) rfl a7) ?_
  obtain ⟨o_2', h⟩ := h
  refine wv (OV.add rfl rfl o_2') ?_
  refine wv (OV.nilCheck rfl) ?_
  refine wv (OV.fieldAddr0 rfl d5) ?_
  refine WL.store (vs := [zI (r_1 + 1)]) (cs' := [st r_0, zI (r_1 + 1)]) 0 rfl rfl rfl rfl g9 (Nat.le_of_ble_eq_true rfl) rfl rfl rfl ?_
  refine WL.nil ?_
  refine kg (hK_5' [(0, zP b)] _ ?_)
  refine a6 (fun _ hK_6' => ?_)
  refine a4 ?_
  refine wm ?_
  obtain ⟨o_3', h⟩ := h
  refine WL.callS aq9 rfl (apm b te fre r_0 (r_1 + 1) o_3') rfl ⟨.inr (List.mem_of_getElem? (i := 0) rfl), trivial⟩ rfl rfl (fun r H' hS => ?_) (fun c H' hS => ?_)
  ·rcases hS with ⟨r_1', at0, hc, ho⟩ | ⟨e, at0_1', hc, ho⟩ <;> cases ho
   replace h := h.1 r_1' at0 hc
   refine wa ?_
   refine WL.nil ?_
   refine kg (hK_6' [(4, zU r_1')] _ ?_)
   refine b9 ?_
   exact hE.ret [0] rfl rfl (.inl ⟨_, _, _, h, rfl⟩) (d8.of1 rfl (RV.tmp rfl))
  ·rcases hS with ⟨r_1', at0, hc, ho⟩ | ⟨e, at0_1', hc, ho⟩ <;> cases ho
   replace h := h.2 e at0_1' hc
   exact hE.pan [0] rfl rfl (.inr ⟨_, _, _, h, rfl⟩)
 ·replace h := i9 h hb
  refine b7 ?_
  refine kg (hK_2' [(0, zP b), (1, st barred), (5, zU (b4 r_0 r_1)), (6, zB (f9 r_0 r_1))] _ ?_)
  refine a6 (fun _ hK_7' => ?_)
  refine a6 (fun _ hK_8' => ?_)
  refine a4 ?_
  refine wm ?_
  refine wv (OV.not rfl) ?_
  refine wm ?_
  refine WL.cut 3 [(0, zP b), (1, st barred), (5, zU (b4 r_0 r_1)), (31, zB ((!(f9 r_0 r_1)) || (decide (b4 r_0 r_1 < 32))))] ?_ (fun K0_9' hK_9' => ?_)
  rotate_left
  ·refine WL.split (!(f9 r_0 r_1)) (fun hb => ?_) (fun hb => ?_)
   ·refine WL.set 28 rfl (congrArg zB hb) ?_
    refine wk ?_
    refine wk ?_
    refine wv (OV.pickT rfl rfl) ?_
    refine WL.set 31 rfl (oT (v := decide (b4 r_0 r_1 < 32)) hb) ?_
    exact WL.end_ (kg hK_9')
   ·refine WL.set 28 rfl (congrArg zB hb) ?_
    refine wm ?_
    refine wv (OV.lss rfl rfl) ?_
    refine wv (OV.pickF rfl rfl) ?_
    refine WL.set 31 rfl (oF (v := decide (b4 r_0 r_1 < 32)) hb) ?_
    exact WL.end_ (kg hK_9')
  refine wm ?_
  refine WL.cut 3 [(0, zP b), (1, st barred), (5, zU (b4 r_0 r_1)), (35, zB (((!(f9 r_0 r_1)) || (decide (b4 r_0 r_1 < 32))) || (decide (126 < b4 r_0 r_1))))] ?_ (fun K0_10' hK_10' => ?_)
  rotate_left
  ·refine WL.split ((!(f9 r_0 r_1)) || (decide (b4 r_0 r_1 < 32))) (fun hb => ?_) (fun hb => ?_)
   ·refine WL.set 32 rfl (congrArg zB hb) ?_
    refine wk ?_
    refine wk ?_
    refine wv (OV.pickT rfl rfl) ?_
    refine WL.set 35 rfl (oT (v := decide (126 < b4 r_0 r_1)) hb) ?_
    exact WL.end_ (kg hK_10')
   ·refine WL.set 32 rfl (congrArg zB hb) ?_
    refine wm ?_
    refine wv (OV.gtr rfl rfl) ?_
    refine wv (OV.pickF rfl rfl) ?_
    refine WL.set 35 rfl (oF (v := decide (126 < b4 r_0 r_1)) hb) ?_
    exact WL.end_ (kg hK_10')
  refine wm ?_
  refine WL.cut 5 [(0, zP b), (5, zU (b4 r_0 r_1)), (41, zB ((((!(f9 r_0 r_1)) || (decide (b4 r_0 r_1 < 32))) || (decide (126 < b4 r_0 r_1))) || (decide (0 ≤ Lib.indexByte barred (b4 r_0 r_1).toNat.toUInt8))))] ?_ (fun K0_11' hK_11' => ?_)
  rotate_left
  ·refine WL.split (((!(f9 r_0 r_1)) || (decide (b4 r_0 r_1 < 32))) || (decide (126 < b4 r_0 r_1))) (fun hb => ?_) (fun hb => ?_)
   ·refine WL.set 36 rfl (congrArg zB hb) ?_
    refine wk ?_
    refine wk ?_
    refine wk ?_
    refine wk ?_
    refine wv (OV.pickT rfl rfl) ?_
    refine WL.set 41 rfl (oT (v := decide (0 ≤ Lib.indexByte barred (b4 r_0 r_1).toNat.toUInt8)) hb) ?_
    exact WL.end_ (kg hK_11')
   ·refine WL.set 36 rfl (congrArg zB hb) ?_
    refine wm ?_
    refine wm ?_
    refine WL.call (A := []) ak3 rfl (afl barred (b4 r_0 r_1)) rfl trivial rfl rfl ?_
    refine wv (OV.geq rfl rfl) ?_
    refine wv (OV.pickF rfl rfl) ?_
    refine WL.set 41 rfl (oF (v := decide (0 ≤ Lib.indexByte barred (b4 r_0 r_1).toNat.toUInt8)) hb) ?_
    exact WL.end_ (kg hK_11')
  refine WL.nil ?_
  refine kg (hK_8' [(0, zP b), (5, zU (b4 r_0 r_1)), (41, zB ((((!(f9 r_0 r_1)) || (decide (b4 r_0 r_1 < 32))) || (decide (126 < b4 r_0 r_1))) || (decide (0 ≤ Lib.indexByte barred (b4 r_0 r_1).toNat.toUInt8))))] _ ?_)
  refine b5 (b := (((!(f9 r_0 r_1)) || (decide (b4 r_0 r_1 < 32))) || (decide (126 < b4 r_0 r_1))) || (decide (0 ≤ Lib.indexByte barred (b4 r_0 r_1).toNat.toUInt8))) rfl (fun hb => ?_) (fun hb => ?_)
  ·replace h := j4 h hb
   refine a4 ?_
   refine wm ?_
   refine wm ?_
   refine wv (OV.nilCheck rfl) ?_
   refine wv (OV.fieldAddr0 rfl d5) ?_
   refine wv (OV.load rfl (At.own 0 rfl) rfl a7) ?_
   refine WL.callS ac8 rfl (aec b r_1) rfl trivial rfl rfl (fun r H' hS => by cases hS) (fun c H' hS => ?_)
   cases hS
   exact hE.pan [0] rfl rfl (.inr ⟨_, _, _, h, rfl⟩)
  ·replace h := i9 h hb
   refine b7 ?_
   refine kg (hK_7' [(0, zP b), (5, zU (b4 r_0 r_1))] _ ?_)
   refine a6 (fun _ hK_12' => ?_)
   refine a4 ?_
   refine wm ?_
   refine wv (OV.nilCheck rfl) ?_
   refine wv (OV.fieldAddr0 rfl d5) ?_
   refine wv (OV.load rfl (At.own 0 rfl) rfl a7) ?_
   obtain ⟨o_7', h⟩ := h
   refine wv (OV.add rfl rfl o_7') ?_
   refine wv (OV.nilCheck rfl) ?_
   refine wv (OV.fieldAddr0 rfl d5) ?_
   refine WL.store (vs := [zI (r_1 + 1)]) (cs' := [st r_0, zI (r_1 + 1)]) 0 rfl rfl rfl rfl g9 (Nat.le_of_ble_eq_true rfl) rfl rfl rfl ?_
   refine WL.nil ?_
   refine kg (hK_12' [(5, zU (b4 r_0 r_1))] _ ?_)
   refine a6 (fun _ hK_13' => ?_)
   refine a4 ?_
   refine wm ?_
   refine wa ?_
   refine WL.nil ?_
   refine kg (hK_13' [(4, zU (b4 r_0 r_1))] _ ?_)
   refine b9 ?_
   exact hE.ret [0] rfl rfl (.inl ⟨_, _, _, h, rfl⟩) (d8.of1 rfl (RV.tmp rfl))
theorem ax5 (bar : List UInt8) (c : Int) : (0 ≤ Lib.indexByte bar c.toNat.toUInt8) ↔ bar.contains c.toNat.toUInt8 = true := aef _ _
theorem aku (b : Nat) (te : TypeId) (fre : Nat × Nat) (t : List UInt8) (a : Int) (bar : List UInt8) (h : 0 ≤ a ∧ a ≤ t.length ∧ t.length ≤ 9223372036854775807) : c8 Tryd.prog 175 [.pointer (some ⟨b, 0, none⟩), st bar] (z6 te fre) [ahx b t a] (aw9 b t (fun r => .int .u8 r) (ads t a bar)) := by
 refine (azf b te fre t a bar (fun r t' q => t' = t ∧ ads t a bar = .ok (r, q)) (fun v t' _ => t' = t ∧ ∃ e, ads t a bar = .error e ∧ v = n8 10 e) ?_).weak ?_
 ·have hb := aa5 t a
  unfold ar5 ads f9
  refine ⟨h.1, ?_⟩
  by_cases h1 : a < t.length
  ·have hI : I64 (a + 1) := ⟨by omega, by omega⟩
   have hbar := ax5 bar (b4 t a)
   generalize b4 t a = c at hb hbar ⊢
   simp only [h1, decide_true, Bool.true_and, if_true]
   generalize Lib.indexByte bar c.toNat.toUInt8 = ix at hbar ⊢
   generalize bar.contains c.toNat.toUInt8 = bc at hbar ⊢
   by_cases e1 : c = 92
   ·rw [if_pos (by simpa using e1), if_pos e1]
    exact ⟨hI, ⟨by omega, by omega, h.2.2⟩, fun r q hr => by simp [hr], fun e q he => by simp [he]⟩
   ·rw [if_neg (by simpa using e1), if_neg e1]
    by_cases e5 : c < 32 ∨ 126 < c ∨ bc = true
    ·rw [if_pos (by rw [← hbar] at e5; simp; omega), if_pos e5]; simp
    ·rw [if_neg (by rw [← hbar] at e5; simp; omega), if_neg e5]; simp [hI]
  ·simp only [h1, decide_false, Bool.false_and, if_false]
   rw [if_neg (by simp), if_pos (by simp)]
   simp
 ·rintro o (⟨r, t', q, ⟨rfl, hm⟩, rfl⟩ | ⟨v, t', q, ⟨rfl, e, hm, rfl⟩, rfl⟩)
  ·exact .inl ⟨r, q, hm, rfl⟩
  ·exact .inr ⟨e, q, hm, rfl⟩
end Go.Proofs.YtohnchdnkbadaaaDoor
