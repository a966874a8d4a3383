/-
  Merged: Open, ArU, ArLawParses.
-/
import Derived.ChangeArms
import Derived.DataReads
import Derived.WideShapes
import Derived.Lib.SmallJoins
import Derived.Test.YtaaepdlajkdneaaDoorPp5
namespace Go.Proofs.YtaaepdlajkdneaaDoor
open Go Go.ChangeShapes Go.WideShapes Go.ChangeAt Go.RowKit
theorem ac9 {α : Type} {Q : Nat → α → Prop} : ∀ n : Nat, (∀ i, i < n → ∃ x, Q i x) → ∃ l : List α, l.length = n ∧ ∀ (i : Nat) (x : α), l[i]? = some x → Q i x
 | 0, _ => ⟨[], rfl, fun i x h => by simp at h⟩
 | n + 1, h => by
  obtain ⟨l, hl, hq⟩ := ac9 n fun i hi => h i (by omega)
  obtain ⟨x, hx⟩ := h n (by omega)
  refine ⟨l ++ [x], by simp [hl], fun i y hy => ?_⟩
  by_cases hi : i < n
  ·rw [List.getElem?_append_left (by omega)] at hy
   exact hq i y hy
  ·rw [List.getElem?_append_right (by omega)] at hy
   have h0 : i - l.length = 0 := by
    rcases Nat.eq_zero_or_pos (i - l.length) with h | h
    ·exact h
    ·rw [List.getElem?_eq_none (by simp only [List.length_cons, List.length_nil]; omega)] at hy; cases hy
   rw [h0] at hy
   simp at hy
   subst hy
   rw [show i = n by omega]; exact hx
theorem ag8 {α : Type} {f : α → List Value} {sz : Nat} (hf : ∀ x, (f x).length = sz) {l : List α} {i o : Nat} {x : α} {u : Value} (hi : l[i]? = some x) (hu : (f x)[o]? = some u) : (l.flatMap f)[i * sz + o]? = some u := by
 have hlt := (List.getElem?_eq_some_iff.1 hi).1
 have : Inhabited α := ⟨x⟩
 refine ack hf hlt ?_
 rw [List.getD_eq_getElem?_getD, hi]; exact hu
theorem aiq {H : Type} {enc : TypeId × Value → H} {P : Program} {W : World} {base : Nat} {spare : Nat → Bool} {held : Bool} {r : Reach} {b0 : Nat} {t e : TypeId} {v : Value} {d : DataW H} {p : List MemPlace} {sz : Nat} {α : Type} {f : α → List Value} {G : α → DataW H → Prop}
  (ht : P.underlying t = some (.slice e)) (hc : P.cellsOf e = sz) (h0 : 0 < sz) (hf : ∀ x, (f x).length = sz) (hel : ∀ n cs y, DataW.trod enc P W base spare held n e cs = some y → ∃ x, cs = f x ∧ G x y.1)
  (hv : Value.okWide P W r b0 t v) (h : DataW.Trod enc P W base spare held t v d p) :
  ∃ (R : List (Nat × Obj)) (l : List α), s6 v R l.length (l.flatMap f) ∧ (∀ q ∈ R, W.heap[q.1]? = some q.2) ∧ (d = .nil ∧ l = [] ∨ ∃ es sp, d = .slice es sp ∧ es.length = l.length ∧ ∀ (i : Nat) (x : α), l[i]? = some x → ∃ y, es[i]? = some y ∧ G x y) := by
 obtain ⟨a0, len0, cap0, rfl⟩ := okWide_slice ht hv
 obtain ⟨fuel, hfu⟩ := h
 rcases DataW.trod_slice ht hfu with ⟨hcs, hx⟩ | ⟨a, len, cap, elems, rest, n, _, hcs, hx, _, hl, _, hlen, hel2, _⟩
 ·simp [Value.cells] at hcs
  obtain ⟨rfl, rfl, rfl⟩ := hcs
  simp only [Prod.mk.injEq] at hx
  exact ⟨[], [], .inl ⟨rfl, rfl, ⟨_, _, rfl⟩, rfl⟩, fun q hq => (by cases hq), .inl ⟨hx.1, rfl⟩⟩
 ·simp [Value.cells] at hcs
  obtain ⟨rfl, rfl, rfl⟩ := hcs
  simp only [Prod.mk.injEq] at hx
  obtain ⟨l, hll, hq⟩ := ac9 (Q := fun i x => W.cells? base (a.add (i * sz)) sz = some (f x) ∧ ∃ y, elems[i]? = some y ∧ G x y.1) len0 fun i hi => by
   have h1 := hel2 i hi
   rw [hc, List.getElem?_eq_getElem (by omega), Option.bind_eq_some_iff] at h1
   obtain ⟨cs, h2, h3⟩ := h1
   obtain ⟨x, rfl, hg⟩ := hel _ _ _ h3
   exact ⟨x, h2, _, List.getElem?_eq_getElem (by omega), hg⟩
  have hd : ∃ es sp, d = .slice es sp ∧ es.length = l.length ∧ ∀ (i : Nat) (x : α), l[i]? = some x → ∃ y, es[i]? = some y ∧ G x y := by
   refine ⟨elems.map (·.1), rest.map (·.1), hx.1, by simp; omega, fun i x hi => ?_⟩
   obtain ⟨_, y, hy, hg⟩ := hq i x hi
   exact ⟨y.1, by simp [hy], hg⟩
  rcases Nat.eq_zero_or_pos len0 with h00 | hpos
  ·subst h00
   have hl0 : l = [] := List.eq_nil_of_length_eq_zero hll
   subst hl0
   exact ⟨[], [], .inl ⟨rfl, rfl, ⟨_, _, rfl⟩, rfl⟩, fun q hq => (by cases hq), .inr hd⟩
  ·-- the first cell tells the block
   have hx0 : ∃ x, l[0]? = some x := ⟨_, List.getElem?_eq_getElem (by omega)⟩
   obtain ⟨x0, hx0⟩ := hx0
   have hc0 := World.cells?_some (hq 0 x0 hx0).1
   have hcell := hc0.2.2 0 h0
   rw [Nat.zero_mul] at hcell
   have hf0 : ∃ u, (f x0)[0]? = some u := ⟨_, List.getElem?_eq_getElem (show 0 < (f x0).length by rw [hf]; exact h0)⟩
   obtain ⟨u0, hu0⟩ := hf0
   rw [hu0] at hcell
   have ha0 : (a.add 0).add 0 = a := rfl
   rw [ha0] at hcell
   obtain ⟨b, off, spot⟩ := a
   obtain ⟨cs, T, fr, hblk, rfl⟩ : ∃ cs T fr, W.heap[b]? = some (.cells cs T fr) ∧ spot = none := by
    unfold World.cell? at hcell
    simp only at hcell
    split at hcell
    ·rename_i c T fr hb
     split at hcell
     ·cases hcell
     ·rename_i hs
      exact ⟨c, T, fr, hb, by simpa using hs⟩
    ·cases hcell
   refine ⟨[(b, .cells cs T fr)], l, .inr ⟨b, off, cap0, cs.toList, T, fr, by rw [hll], by rw [Array.toArray_toList], ?_⟩, fun q hq' => by rw [List.mem_singleton.1 hq']; exact hblk, .inr hd⟩
   have key : ∀ j u, (l.flatMap f)[j]? = some u → cs.toList[off + j]? = some u := by
    intro j u hj
    have hjl : j < l.length * sz := by rw [← s7 hf l]; exact (List.getElem?_eq_some_iff.1 hj).1
    have hqi : j / sz < l.length := Nat.div_lt_of_lt_mul (by rw [Nat.mul_comm]; exact hjl)
    have e1 : j = j / sz * sz + j % sz := (Nat.div_add_mod' j sz).symm
    have hr := Nat.mod_lt j h0
    have hxi : l[j / sz]? = some l[j / sz] := List.getElem?_eq_getElem hqi
    have h2 := (World.cells?_some (hq _ _ hxi).1).2.2 (j % sz) hr
    have h3 : (f l[j / sz])[j % sz]? = some u := by
     obtain ⟨u', hu'⟩ : ∃ u', (f l[j / sz])[j % sz]? = some u' := ⟨_, List.getElem?_eq_getElem (show j % sz < (f l[j / sz]).length by rw [hf]; exact hr)⟩
     have := ag8 hf hxi hu'
     rw [← e1, hj] at this
     rw [hu', this]
    rw [h3, Addr.add_mid, Addr.add_mid] at h2
    unfold World.cell? at h2
    simp only [hblk] at h2
    simp only [Option.isSome_none, Bool.false_eq_true, if_false] at h2
    rw [show off + j / sz * sz + j % sz = off + j by omega] at h2
    simpa using h2
   refine List.ext_getElem? fun j => ?_
   by_cases hj : j < (l.flatMap f).length
   ·rw [List.getElem?_take, if_pos hj, List.getElem?_drop, key j _ (List.getElem?_eq_getElem hj), List.getElem?_eq_getElem hj]
   ·rw [List.getElem?_eq_none (by rw [List.length_take]; omega), List.getElem?_eq_none (by omega)]
end Go.Proofs.YtaaepdlajkdneaaDoor
namespace Go.Proofs.YtaaepdlajkdneaaDoor
open Go Go.ChangeShapes Go.WideShapes Go.ChangeAt Go.RowKit
set_option maxRecDepth 100000 in
theorem ad1 {f : FuncId} {vs : List Value} {v : Value} {W : World} {R : List (Nat × Obj)} (hL : laidMetH Tryd.prog afw W) (hR : ∀ q ∈ R, W.heap[q.1]? = some q.2) (h : ∀ te fre, i3 Tryd.prog f vs (R ++ acc te fre) [] (Ret v [])) :
  Calls Tryd.prog f vs.toArray W fun e W' => e = .returned v ∧ Below W.heap.size W W' := by
 obtain ⟨te, fre, he⟩ := aff hL
 refine (h te fre W [] rfl List.nodup_nil (fun k hk => by cases hk) (fun p hp => ?_)).mono ?_
 ·rcases List.mem_append.1 hp with hp | hp
  ·exact ⟨hR p hp, fun hx => by cases hx⟩
  ·obtain rfl := List.mem_singleton.1 hp; exact ⟨he, fun hx => by cases hx⟩
 ·rintro en w' ⟨H', hS, hh⟩
  rcases hS with ⟨r, rfl, hS⟩ | ⟨c, rfl, hS⟩
  ·cases hS; exact ⟨rfl, hh.toBelow⟩
  ·cases hS
section
variable {H : Type} {enc : TypeId × Value → H} {W : World} {base b0 : Nat} {sp : Nat → Bool} {hd : Bool} {r : Reach} {v : Value} {d : DataW H} {ps : List MemPlace}
set_option maxRecDepth 100000 in
theorem air (n : Nat) (cs : List Value) (y : DataW H × List MemPlace) (h : DataW.trod enc Tryd.prog W base sp hd n 9 cs = some y) : ∃ x : Bs, cs = l6 x ∧ y.1 = .lit (.string x) := by
 obtain ⟨s, e, rfl, _⟩ := DataW.trod_string Tryd.underlying9 h
 exact ⟨s.data.toList, e, rfl⟩
set_option maxRecDepth 100000 in
theorem af9 (hval : Value.okWide Tryd.prog W r b0 22 v) (h : DataW.Trod enc Tryd.prog W base sp hd 22 v d ps) :
  ∃ (R : List (Nat × Obj)) (l : List Bs), s6 v R l.length (l.flatMap l6) ∧ (∀ q ∈ R, W.heap[q.1]? = some q.2) ∧ (d = .nil ∧ l = [] ∨ ∃ es sp, d = .slice es sp ∧ es.length = l.length ∧ ∀ (i : Nat) (x : Bs), l[i]? = some x → ∃ y, es[i]? = some y ∧ y = .lit (.string x)) :=
 aiq Tryd.underlying22 (show Tryd.prog.cellsOf 9 = 1 by kernel_rfl) (by decide) l5 (G := fun x d => d = .lit (.string x)) (fun n cs y hy => air n cs y hy) hval h
theorem x9 {P : Program} {e : TypeId} : ∀ {l : List (DataW H)} {d : DataW H}, d ∈ l → ∀ n ∈ d.weights P e, n ∈ DataW.weightsAll P e l
 | x :: r, d, h, n, hn => by
  unfold DataW.weightsAll
  rcases List.mem_cons.1 h with rfl | h
  ·exact List.mem_append_left _ hn
  ·exact List.mem_append_right _ (x9 h n hn)
set_option maxRecDepth 100000 in
theorem ae4 {ts : List TypeId} {ds : List (DataW H)} (h : (DataW.weightsEach Tryd.prog ts ds).all (· ≤ reachBytes) = true) {j : Nat} {l : List Bs} (ht : ts[j]? = some 22) (hd : ds[j]? = some d)
  (hdd : d = .nil ∧ l = [] ∨ ∃ es sp, d = .slice es sp ∧ es.length = l.length ∧ ∀ (i : Nat) (x : Bs), l[i]? = some x → ∃ y, es[i]? = some y ∧ y = (.lit (.string x) : DataW H)) : l.length ≤ 8796093022207 ∧ ∀ s ∈ l, s.length ≤ 140737488351232 := by
 rcases hdd with ⟨rfl, rfl⟩ | ⟨es, sp, rfl, hlen, hel⟩
 ·exact ⟨by simp, fun s hs => by cases hs⟩
 ·have hw : DataW.weights (H := H) Tryd.prog 22 (.slice es sp) = (es.length + sp.length) * Tryd.prog.bytesOf 9 :: (DataW.weightsAll Tryd.prog 9 es ++ DataW.weightsAll Tryd.prog 9 sp) := by
   simp [DataW.weights, Tryd.underlying22]
  have hm := DataW.weights_mem_each (P := Tryd.prog) ht hd
  rw [hw, show Tryd.prog.bytesOf 9 = 16 by kernel_rfl] at hm
  have hk := fun n hn => of_decide_eq_true (List.all_eq_true.1 h n (hm n hn))
  have h1 := hk _ (List.mem_cons_self ..)
  unfold reachBytes at h1
  refine ⟨by omega, fun s hs => ?_⟩
  obtain ⟨i, hi⟩ := List.mem_iff_getElem?.1 hs
  obtain ⟨y, hy, rfl⟩ := hel i s hi
  have h2 := hk s.length (List.mem_cons_of_mem _ (List.mem_append_left _ (x9 (List.mem_of_getElem? hy) _ (by simp [DataW.weights]))))
  unfold reachBytes at h2
  omega
end
end Go.Proofs.YtaaepdlajkdneaaDoor
namespace Go.Proofs.YtaaepdlajkdneaaDoor
open Go Go.ChangeShapes Go.WideShapes Go.ChangeAt Go.RowKit
theorem acj (os : Os) : laidMet Tryd.prog Rows.argsParsesRow.laid ((aa9 os).forCall (fun _ _ => 0) ⟨#[], #[.slice none 0 0], []⟩).memory :=
 laidMet_of_run' 8 (by kernel_rfl) (by kernel_rfl)
theorem abf (os : Os) {H : Type} (enc : TypeId × Value → H) : ∃ places, DataW.whole enc Tryd.prog ((aa9 os).forCall (fun _ _ => 0) ⟨#[], #[.slice none 0 0], []⟩).memory Tryd.f3.params.toList Rows.argsParsesSpec.vars false (#[.slice none 0 0] : Array Value).toList 8 = some ([.nil], [], places) :=
 ⟨[], by kernel_rfl⟩
set_option maxRecDepth 100000 in
theorem aa5 (os : Os) (started : os.Started) (H : Type) (enc : TypeId × Value → H) (F : Stop.Interp) :
  ReturnsInHanded {} Tryd.checked os 3 .any ((OpenSpec.ofChange Rows.argsParsesSpec).preRow enc Tryd.prog Tryd.f3 Rows.argsParsesRow.domain false Rows.argsParsesRow.laid) (((OpenSpec.ofChange Rows.argsParsesSpec).at F).post enc Tryd.prog Tryd.f3 false true false false) := by
 obtain ⟨places, hx⟩ := abf os enc
 refine returnsInHanded_of_row (C := Tryd.checked) (s := OpenSpec.ofChange Rows.argsParsesSpec) ahq started (by kernel_rfl) Tryd.func3
  (witness_row_atRef (enc := enc) (C := Tryd.checked) false (aa9 os) #[.slice none 0 0] rfl (by kernel_rfl) (by kernel_rfl) (by kernel_rfl)
   (OpenSpec.preRow_of_cond 8 hx (by kernel_rfl) (fun k hk => by cases hk) (by kernel_rfl) (acj os))) ?_
 intro W base args ds gs before hval0 hW _ hcond hwt0 hL _ _
 have hval : ∀ (j : Nat) t v, Tryd.f3.params[j]? = some t → args[j]? = some v → Value.okWide Tryd.prog W .any base t v := hval0
 have hW' : DataW.Whole enc Tryd.prog Tryd.f3.params.toList Rows.argsParsesSpec.vars false W args.toList ds gs before := hW
 obtain ⟨p, q, hA0, hV, rfl, _, _⟩ := hW'
 have hA : DataW.TrodAll enc Tryd.prog W 0 (fun _ => true) true Tryd.f3.params.toList args.toList ds p := hA0
 have hwt : (DataW.weightsEach Tryd.prog (Tryd.f3.params.toList ++ Rows.argsParsesSpec.plain.varTypes Tryd.prog) (ds ++ gs)).all (· ≤ reachBytes) = true := hwt0
 rw [Tryd.params3] at hA hval hwt
 obtain ⟨v0, d0, rfl, rfl, h0⟩ := trodAll_one hA
 obtain ⟨rfl, rfl⟩ := trodVars_none hV
 obtain ⟨R0, l0, hR0, hRW0, e0⟩ := af9 (hval 0 _ v0 rfl rfl) h0
 have r0 := ae4 hwt (j := 0) rfl rfl e0
 refine (ad1 hL hRW0 (fun te fre => adt te fre v0 l0 r0 R0 hR0)).mono fun e W' ⟨he, hb⟩ => ?_
 subst he
 exact ⟨_, rfl, aib ahu rfl Tryd.underlying4 (by kernel_rfl) rfl hW rfl hb⟩
theorem abq : Rows.ArgsParsesSaid :=
 OpenClaim.holds_of_cond 3 Tryd.f3 rfl rfl rfl rfl rfl rfl rfl ⟨rfl, rfl, rfl, rfl, rfl⟩ rfl rfl rfl rfl rfl (by kernel_rfl) Tryd.func3 (by kernel_rfl)
  (of_decide_eq_true (by kernel_rfl)) (by unfold Func.isWrapper; rw [if_neg (of_decide_eq_false (by kernel_rfl))]; exact ⟨rfl, rfl⟩)
  (fun os started H enc _ F => by rw [OpenClaim.pre_eq_preRow]; exact aa5 os started H enc F)
theorem argsParses_card_holds : Rows.ArgsParsesCardSaid :=
 Claim7.holds_tied_plain_at .later [] _ _ _ _ abq (fun _ h => by cases h) (by kernel_rfl) (fun _ h => by cases h) argsParses_row_tie rfl ⟨rfl, rfl⟩ (by kernel_rfl) rfl
  (fun f fn hf hfn => by
   obtain rfl : f = 3 := Option.some.inj ((show Tryd.prog.funcNamed "loupe/loupelaw26.ArgsParses" = some 3 by kernel_rfl).symm.trans hf) |>.symm
   obtain rfl : fn = Tryd.f3 := (Option.some.inj (Tryd.func3.symm.trans hfn)).symm
   refine ⟨by kernel_rfl, fun j t ht => ?_⟩
   rw [Tryd.params3] at ht
   have h3 : t = 22 := by simpa using Array.mem_of_getElem? ht
   rcases h3 with rfl
   ·exact (show Tryd.prog.wantsStandIn 22 = false by kernel_rfl))
  (by kernel_rfl)
end Go.Proofs.YtaaepdlajkdneaaDoor
