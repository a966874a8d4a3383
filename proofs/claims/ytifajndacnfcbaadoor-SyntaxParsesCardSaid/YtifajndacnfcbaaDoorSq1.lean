/-
  Merged: Gwr, Gws, Gwt, Gwe, Gwb, Gwl, Gwh, Gwi, Gwk, Gwv, Gwy, SyA, Shelf, TkD, SyD, SyP, SyQ, Gwz, Gwu, Gwp.
-/
import Derived.Deep.DeepAppendWide
import Derived.Laws.OwnMore
import Derived.Lib.AppendStr
import Derived.Laws.StructEq
import Derived.Lib.Builder
import Derived.Laws.Pointers
import Derived.Laws.Externs
import Derived.Shelf.Strings.Builder1
import Derived.Shelf.Small.Strs
import Derived.Shelf.Strings.BuilderF
import Derived.Shelf.Strings.BuilderK
import Derived.Shelf.Strings.Search1
import Derived.Shelf.Strings.Search2
import Derived.Shelf.Strings.Search3
import Derived.Shelf.LaysM
import Derived.Shelf.Strings.Shaped
import Derived.Shelf.Strings.Prefix
import Derived.Test.YtifajndacnfcbaaDoorProg
import Derived.Test.YtifajndacnfcbaaDoorSq0
namespace Go.Proofs.YtifajndacnfcbaaDoor
open Go Go.RowKit
variable {P : Program} {ops : Array Oper} {Q : Exit → Act → World → Prop} {C : Cx} {L : Sl} {H : List HA} {rest : List Oper} {o : Oper} {w : World}
def ab5 : Value → Nat
 | .slice (some a) _ _ => a.block
 | _ => 0
theorem al1 : ∀ {Fs : List (List Nat)} {i : Nat} {F F' : List Nat}, Fs.flatten.Nodup → Fs[i]? = some F → F'.Nodup → (∀ k ∈ F', k ∈ F ∨ ∀ G ∈ Fs, k ∉ G) → (Fs.set i F').flatten.Nodup
 | [], i, F, F', _, h, _, _ => by simp at h
 | G :: Fs, 0, F, F', hn, h, hF, hk => by
  simp at h
  subst h
  rw [List.flatten_cons, List.nodup_append] at hn
  rw [List.set_cons_zero, List.flatten_cons, List.nodup_append]
  refine ⟨hF, hn.2.1, fun x hx y hy e => ?_⟩
  subst e
  obtain ⟨G', hG', hxG⟩ := List.mem_flatten.1 hy
  rcases hk x hx with h1 | h1
  ·exact hn.2.2 x h1 x hy rfl
  ·exact h1 G' (List.mem_cons_of_mem _ hG') hxG
 | G :: Fs, i + 1, F, F', hn, h, hF, hk => by
  simp at h
  rw [List.flatten_cons, List.nodup_append] at hn
  rw [List.set_cons_succ, List.flatten_cons, List.nodup_append]
  refine ⟨hn.1, al1 hn.2.1 h hF fun k hkk => (hk k hkk).imp_right fun h1 G' hG' => h1 G' (List.mem_cons_of_mem _ hG'), fun x hx y hy e => ?_⟩
  subst e
  obtain ⟨G', hG', hxG⟩ := List.mem_flatten.1 hy
  rcases List.mem_or_eq_of_mem_set hG' with h1 | h1
  ·exact hn.2.2 x hx x (List.mem_flatten.2 ⟨G', h1, hxG⟩) rfl
  ·subst h1
   rcases hk x hxG with h2 | h2
   ·exact hn.2.2 x hx x (List.mem_flatten.2 ⟨F, List.mem_of_getElem? h, h2⟩) rfl
   ·exact h2 G (List.mem_cons_self ..) hx
theorem anv {w' : World} : ∀ {Fs : List (List Nat)} {H : List HA} {i : Nat} {x' : HA} {F' : List Nat}, Fs.length = H.length → (∀ (j : Nat) (h : HA) (f : List Nat), H[j]? = some h → j ≠ i → Fs[j]? = some f → h.at w' f) → x'.at w' F' → Own w' (H.set i x') (Fs.set i F').flatten
 | [], [], i, x', F', _, _, _ => by simp [Own]
 | [], _ :: _, _, _, _, hl, _, _ => by simp at hl
 | _ :: _, [], _, _, _, hl, _, _ => by simp at hl
 | F :: Fs, h0 :: H, 0, x', F', hl, hall, hx => by
  refine ⟨F', Fs.flatten, by simp, hx, ?_⟩
  have := anv (w' := w') (Fs := Fs) (H := H) (i := H.length) (x' := x') (F' := F') (by simpa using hl) (fun j h f hh _ hf => hall (j + 1) h f (by simpa using hh) (by omega) (by simpa using hf)) hx
  have hl' : Fs.length = H.length := by simpa using hl
  rwa [List.set_eq_of_length_le (Nat.le_refl _), List.set_eq_of_length_le (by omega)] at this
 | F :: Fs, h0 :: H, i + 1, x', F', hl, hall, hx => by
  refine ⟨F, (Fs.set i F').flatten, by simp, hall 0 h0 F (by simp) (by omega) (by simp), ?_⟩
  exact anv (by simpa using hl) (fun j h f hh hn hf => hall (j + 1) h f (by simpa using hh) (by omega) (by simpa using hf)) hx
theorem Hp.swap (h : Hp C H w) {w' : World} {i : Nat} {x x' : HA} (hi : H[i]? = some x) (hos : w'.os = w.os) (htape : w'.tape = w.tape) (hout : w'.output = w.output) (hsz : w.heap.size ≤ w'.heap.size)
  (hoth : ∀ F, x.at w F → ∀ k, k < w.heap.size → k ∉ F → w'.heap[k]? = w.heap[k]?)
  (hst : ∀ F, x.at w F → F.Nodup → ∃ F', x'.at w' F' ∧ F'.Nodup ∧ (∀ k ∈ F', (k ∈ F ∨ w.heap.size ≤ k) ∧ k < w'.heap.size)) : Hp C (H.set i x') w' := by
 obtain ⟨F0, h1, h2, h3⟩ := h.own
 obtain ⟨Fs, hl, rfl, hall⟩ := h1.parts
 have hlt : i < Fs.length := by rw [hl]; exact (List.getElem?_eq_some_iff.1 hi).1
 have hfi : Fs[i]? = some Fs[i] := List.getElem?_eq_getElem hlt
 have hx := hall i _ _ hi hfi
 obtain ⟨F', k1, k2, k3⟩ := hst _ hx (ala h2 hfi)
 have hmem : ∀ G ∈ Fs, ∀ k ∈ G, k < w.heap.size ∧ (C.w0.heap.size ≤ k ∨ k ∈ C.M) := fun G hG k hk => h3 k (List.mem_flatten.2 ⟨G, hG, hk⟩)
 refine ⟨hos.trans h.os, htape.trans h.tape, hout.trans h.output, Nat.le_trans h.size hsz, fun k hk hM => ?_, h.ro, (Fs.set i F').flatten, ?_, ?_, fun k hk => ?_⟩
 ·rw [hoth _ hx k (by have := h.size; omega) (fun hm => by
   rcases (hmem _ (List.mem_of_getElem? hfi) k hm).2 with h4 | h4
   ·omega
   ·exact hM h4)]
  exact h.keep k hk hM
 ·refine anv hl (fun j hj f hjj hne hf => ?_) k1
  refine HA.at_keep (hall j hj f hjj hf) fun k hk => hoth _ hx k (hmem f (List.mem_of_getElem? hf) k hk).1 fun hm => ?_
  exact aed h2 hf hfi hne k hk hm
 ·refine al1 h2 hfi k2 fun k hk => ?_
  rcases (k3 k hk).1 with h4 | h4
  ·exact .inl h4
  ·exact .inr fun G hG hkG => by have := (hmem G hG k hkG).1; omega
 ·obtain ⟨G, hG, hkG⟩ := List.mem_flatten.1 hk
  rcases List.mem_or_eq_of_mem_set hG with h4 | h4
  ·exact ⟨Nat.lt_of_lt_of_le (hmem G h4 k hkG).1 hsz, (hmem G h4 k hkG).2⟩
  ·subst h4
   refine ⟨(k3 k hkG).2, ?_⟩
   rcases (k3 k hkG).1 with h5 | h5
   ·exact (hmem _ (List.mem_of_getElem? hfi) k h5).2
   ·exact .inl (Nat.le_trans h.size h5)
theorem Hp.row (h : Hp C H w) {i : Nat} {v : Value} {t : TypeId} {sz n : Nat} {xs : List Value} (hi : H[i]? = some (.row v t sz n xs)) : w.ownsRow 0 t sz v n xs := by
 obtain ⟨F, h1, _, _⟩ := h.own
 obtain ⟨Fs, hl, _, hall⟩ := h1.parts
 have hlt : i < Fs.length := by rw [hl]; exact (List.getElem?_eq_some_iff.1 hi).1
 exact (hall i _ _ hi (List.getElem?_eq_getElem hlt)).2
section lists
variable {α : Type} {f : α → List Value} {sz : Nat}
theorem aag (hf : ∀ x, (f x).length = sz) : ∀ l : List α, (l.flatMap f).length = l.length * sz
 | [] => by simp
 | x :: l => by rw [List.flatMap_cons, List.length_append, hf, aag hf l, List.length_cons, Nat.add_mul]; omega
theorem aja (hf : ∀ x, (f x).length = sz) : ∀ (l : List α) (i : Nat), (l.flatMap f).drop (i * sz) = (l.drop i).flatMap f
 | l, 0 => by simp
 | [], i + 1 => by simp
 | x :: l, i + 1 => by
  rw [List.flatMap_cons, Nat.add_mul, Nat.one_mul, Nat.add_comm, ← List.drop_drop, List.drop_left' (hf x), aja hf l i]; rfl
theorem anu [Inhabited α] (hf : ∀ x, (f x).length = sz) {l : List α} {i : Nat} (hi : i < l.length) : ((l.flatMap f).drop (i * sz)).take sz = f (l.getD i default) := by
 rw [aja hf, List.drop_eq_getElem_cons hi, List.flatMap_cons, List.take_left' (hf _), List.getD_eq_getElem?_getD, List.getElem?_eq_getElem hi]; rfl
theorem akd [Inhabited α] (hf : ∀ x, (f x).length = sz) {l : List α} {i o : Nat} {u : Value} (hi : i < l.length) (hu : (f (l.getD i default))[o]? = some u) : (l.flatMap f)[i * sz + o]? = some u := by
 have ho : o < sz := by rw [← hf (l.getD i default)]; exact (List.getElem?_eq_some_iff.1 hu).1
 rw [← anu hf hi, List.getElem?_take, if_pos ho, List.getElem?_drop] at hu
 exact hu
end lists
section ov
variable {x y : Operand} {t e' ty T : TypeId} {d : Option Tmp} {p : String} {e : Array Edge} {g : Option (Nat × Bool)} {v : Value} {k : IntKind} {sz n : Nat} {xs : List Value} {α : Type} [Inhabited α] {f : α → List Value} {l : List α}
theorem OV.lenRow (i : Nat) (hx : ev L x = some v) (hi : H[i]? = some (.row v T sz n xs)) (ht : slB P t e' sz = true) : OV P C L H ⟨d, .call ⟨.builtin .len, #[x], #[t]⟩, ty, p, e, g⟩ (.int .i64 (n : Int)) := fun a w hf hp => by
 rcases (hp.row hi).2 with ⟨rfl, rfl⟩ | ⟨b, cap, cur, rfl, _⟩
 ·exact OV.lenS hx ht a w hf hp
 ·exact OV.lenS hx ht a w hf hp
theorem OV.indexRow (i : Nat) {j : Int} (hx : ev L x = some v) (hy : ev L y = some (.int k j)) (hi : H[i]? = some (.row v T sz n xs)) (ht : slB P t e' sz = true) (hb : 0 ≤ j ∧ j < n) : OV P C L H ⟨d, .indexAddr t x y, ty, p, e, g⟩ (.pointer (some ⟨ab5 v, j.toNat * sz, none⟩)) := fun a w hf hp => by
 rcases (hp.row hi).2 with ⟨rfl, rfl⟩ | ⟨b, cap, cur, rfl, _⟩
 ·exact absurd hb.2 (by omega)
 ·exact OV.indexSl hx hy ht hb (by simp) a w hf hp
theorem Hp.row_cells (hp : Hp C H w) {i : Nat} (hi : H[i]? = some (.row v T sz n xs)) (hne : xs ≠ []) : ∃ cur : List Value, w.heap[ab5 v]? = some (.cells cur.toArray T (0, 0)) ∧ cur.take xs.length = xs := by
 obtain ⟨hl, hr⟩ := hp.row hi
 rcases hr with ⟨rfl, rfl⟩ | ⟨b, cap, cur, rfl, _, hb, _, _, _, ht⟩
 ·exact absurd (List.eq_nil_of_length_eq_zero (by simpa using hl)) hne
 ·exact ⟨cur.toList, by simpa [ab5] using hb, by rw [hl]; exact ht⟩
theorem OV.loadRow1 (i : Nat) {off : Nat} {u : Value} (hx : ev L x = some (.pointer (some ⟨ab5 v, off, none⟩))) (hi : H[i]? = some (.row v T sz n xs)) (hc : xs[off]? = some u) (ht : aal P t = true) : OV P C L H ⟨d, .load t x, ty, p, e, g⟩ u := fun a w hf hp => by
 obtain ⟨cur, h1, h2⟩ := hp.row_cells hi (fun h => by subst h; simp at hc)
 have hlt : off < xs.length := (List.getElem?_eq_some_iff.1 hc).1
 have hcell : w.cell? ⟨ab5 v, off, none⟩ = some u := by
  rw [← h2, List.getElem?_take, if_pos hlt] at hc
  simp [World.cell?, h1, hc]
 simp [execOp, hf.ev hx, Instr.loadAt, Instr.sureAddr, loadVar, aaq ht, hcell]
theorem OV.loadRowM (i : Nat) {off : Nat} {vs : List Value} (hx : ev L x = some (.pointer (some ⟨ab5 v, off, none⟩))) (hi : H[i]? = some (.row v T sz n xs)) (hv : (xs.drop off).take vs.length = vs) (hne : vs ≠ []) (ht : RowT P t vs.length) : OV P C L H ⟨d, .load t x, ty, p, e, g⟩ (.agg vs.toArray) := fun a w hf hp => by
 obtain ⟨cur, h1, h2⟩ := hp.row_cells hi (fun h => by subst h; simp at hv; exact hne hv)
 obtain ⟨dd, hu, hd⟩ : ∃ dd, P.underlying t = some dd ∧ dd.isRow = true := by
  rcases ht.desc with ⟨_, h⟩ | ⟨_, _, h⟩ <;> exact ⟨_, h, rfl⟩
 have hv2 : (cur.drop off).take vs.length = vs := by
  have hle : vs.length ≤ xs.length - off := by
   have := congrArg List.length hv
   rw [List.length_take, List.length_drop] at this; omega
  generalize xs.length = N at h2 hle
  rw [← h2, List.drop_take, List.take_take, Nat.min_eq_left hle] at hv
  exact hv
 simp [execOp, hf.ev hx, run_loadAt_mid w (ab5 v) off t vs dd (ale h1 hv2) hu hd ht.size]
theorem OV.loadE (i : Nat) {j : Nat} (hx : ev L x = some (.pointer (some ⟨ab5 v, j * sz, none⟩))) (hi : H[i]? = some (.row v T sz l.length (l.flatMap f))) (hf' : ∀ x, (f x).length = sz) (h0 : 0 < sz) (hj : j < l.length) (ht : RowT P t sz) : OV P C L H ⟨d, .load t x, ty, p, e, g⟩ (.agg (f (l.getD j default)).toArray) :=
 OV.loadRowM i hx hi (by rw [hf']; exact anu hf' hj) (fun h => by have := hf' (l.getD j default); rw [h, List.length_nil] at this; omega) (by rw [hf']; exact ht)
theorem OV.loadEF (i : Nat) {j o : Nat} {u : Value} (hx : ev L x = some (.pointer (some ⟨ab5 v, j * sz + o, none⟩))) (hi : H[i]? = some (.row v T sz l.length (l.flatMap f))) (hf' : ∀ x, (f x).length = sz) (hj : j < l.length) (hu : (f (l.getD j default))[o]? = some u) (ht : aal P t = true) : OV P C L H ⟨d, .load t x, ty, p, e, g⟩ u :=
 OV.loadRow1 i hx hi (akd hf' hj hu) ht
end ov
section st
variable {x y : Operand} {t ty T : TypeId} {p : String} {e : Array Edge} {g : Option (Nat × Bool)} {v u : Value} {sz n off : Nat} {xs vs xs' : List Value} {α : Type} [Inhabited α] {f : α → List Value} {l : List α}
end st
def afi (P : Program) (e : TypeId) : Option (List Value × Nat × Nat) := match P.info? e with
 | some i => match i.zero with
  | some z => some (z.cells.toList, i.size, i.bytes)
  | none => none
 | none => none
theorem akg {e : TypeId} {zs : List Value} {sz bytes : Nat} (h : afi P e = some (zs, sz, bytes)) : ∃ i z, P.info? e = some i ∧ i.zero = some z ∧ z.cells = zs.toArray ∧ i.size = sz ∧ i.bytes = bytes := by
 unfold afi at h
 cases hq : P.info? e with
 | none => simp [hq] at h
 | some i =>
  cases hz : i.zero with
  | none => simp [hq, hz] at h
  | some z => simp [hq, hz] at h; exact ⟨i, z, rfl, hz, by rw [← h.1], h.2.1, h.2.2⟩
theorem amc {w : World} {t ty e : TypeId} {i : TypeInfo} {z : Value} {size bytes : Nat} (ht : P.underlying t = some (.slice e)) (hi : P.info? e = some i) (hz : i.zero = some z)
  (hsize : i.size = size) (hby : i.bytes = bytes) {v : Value} {n : Nat} {xs : List Value} (hown : w.ownsRow 0 e size v n xs)
  {a : Addr} {m c : Nat} {news : List Value} (hl : news.length = m * size) (hnews : ∀ j u, news[j]? = some u → w.cell? (a.add j) = some u) (h1 : ∀ u ∈ news, u.oneCell' = true)
  (h63 : n + m ≤ 9223372036854775807) (hbytes : ((n + m) + (n + m) / 4 + 192) * bytes ≤ 281474976710656) {v' : Value} {w' : World} (hr : (Builtin.append_ #[t, t] ty #[v, .slice (some a) m c]).run P w = .ok v' w') {k : Nat} (hk : v'.ownBlock = some k) : v.ownBlock = some k ∨ w.heap.size ≤ k := by
 subst hsize
 subst hby
 rcases hown.2 with ⟨rfl, rfl⟩ | ⟨g, cap, cur, rfl, _, hg, hnc, _, hcs, _⟩
 ·by_cases hm : m = 0
  ·subst hm
   have hn : news = [] := List.eq_nil_of_length_eq_zero (by simpa using hl)
   subst hn
   have : (Builtin.append_ #[t, t] ty #[.slice none 0 0, .slice (some a) 0 c]).run P w = .ok (.slice none 0 0) w := by
    simp [Builtin.append_, run_underlying ht, sizeOf, typeInfo, hi, Builtin.lenOf, Builtin.firstCells, loadCells, loadCellsFrom]
   rw [this] at hr
   cases hr
   simp [Value.ownBlock] at hk
  ·rw [run_append_nil (P := P) w t ty e i z ht hi hz a m c news hl hnews (by omega) (by omega) (by have hb := hbytes; simp only [Nat.zero_add] at hb; exact Nat.le_trans (Nat.mul_le_mul_right _ (by omega)) hb)] at hr
   cases hr
   simp [Value.ownBlock] at hk
   exact .inr (by omega)
 ·by_cases hroom : n + m ≤ cap
  ·have hfit : n * i.size + news.length ≤ cur.size := by rw [hl, hcs, ← Nat.add_mul]; exact Nat.mul_le_mul_right _ hroom
   rw [run_append_room (P := P) w t ty e i ht hi g n cap cur hg a m c news hl hnews h1 hroom hfit] at hr
   cases hr
   exact .inl hk
  ·have holds : ∀ j u, xs[j]? = some u → w.cell? ((⟨g, 0, none⟩ : Addr).add j) = some u := hown.cells (g := g) rfl
   rw [run_append_grow (P := P) w t ty e i z ht hi hz ⟨g, 0, none⟩ n cap xs hown.1 holds a m c news hl hnews (by omega) (by omega) (growslice_fits_wide (by omega) hbytes)] at hr
   cases hr
   simp [Value.ownBlock] at hk
   exact .inr (by omega)
section ap
variable {s x y z : Operand} {t e' ty T : TypeId} {p : String} {e : Array Edge} {v : Value} {k k' : IntKind} {sz bytes : Nat} {zs cs : List Value} {α : Type} {f : α → List Value} {l ms : List α} {d : Nat}
theorem WL.append (i j : Nat) {b : Nat} {m c : Nat} (hs : ev L s = some v) (hx : ev L x = some (.slice (some ⟨b, 0, none⟩) m c)) (hi : H[i]? = some (.row v e' sz l.length (l.flatMap f))) (hj : H[j]? = some (.blk b (.cells cs.toArray T (0, 0)))) (hc : cs = ms.flatMap f) (hm : ms.length = m)
  (hf' : ∀ x, (f x).length = sz) (h0 : 0 < sz) (h1 : cs.all (·.oneCell') = true) (ht : slB P t e' sz = true) (hinf : afi P e' = some (zs, sz, bytes)) (hzs : zs.length = sz) (hb : ((l.length + m) + (l.length + m) / 4 + 192) * bytes ≤ 281474976710656 ∧ l.length + m ≤ 9223372036854775807)
  (hw : p7 ops L ⟨some d, .call ⟨.builtin .append, #[s, x], #[t, t]⟩, ty, p, e, none⟩ = some true) (hn : Nat.blt d C.n = true)
  (h : ∀ v', WL P ops Q C ((d, v') :: L) (H.set i (.row v' e' sz (l ++ ms).length ((l ++ ms).flatMap f))) rest) : WL P ops Q C L H (⟨some d, .call ⟨.builtin .append, #[s, x], #[t, t]⟩, ty, p, e, none⟩ :: rest) := by
 intro a w hf hp
 obtain ⟨inf, z, q1, q2, q3, q4, q5⟩ := akg hinf
 have hblk := hp.blk hj
 subst hm
 have hlen : cs.length = ms.length * sz := by rw [hc, aag hf']
 have hnews : ∀ q u, cs[q]? = some u → w.cell? ((⟨b, 0, none⟩ : Addr).add q) = some u := fun q u hq => by
  rw [Addr.add_mid, Nat.zero_add]; simp [World.cell?, hblk, hq]
 have hone : ∀ u ∈ cs, u.oneCell' = true := fun u hu => (List.all_eq_true.1 h1) u hu
 obtain ⟨v', w', hr, r1, r2, _⟩ := run_append_own_wide (P := P) w 0 t ty e' inf z sz bytes (w7 ht).1 q1 q2 q4 q5 (by rw [q3]; simpa using hzs) h0 v l.length (l.flatMap f) (hp.row hi) ⟨b, 0, none⟩ ms.length c cs hlen hnews hone (by simp only [maxLen]; omega) hb.1 (Nat.zero_le _)
 refine s7 (j9 hf hw) ?_
 unfold Oper.wp execOp
 simp only [resolve, invoke, builtin, Sem.run_bind, Sem.run_pure, Result.andThen_ok, List.map_toArray, List.map_cons, List.map_nil, hf.ev hs, hf.ev hx, hr]
 refine h v' _ w' (hf.put hn v') (hp.swap hi r2.os r2.tape r2.output r2.size (fun F hF k hk hkF => r2.block k hk (fun e => hkF (by rw [hF.1, ← e]; simp))) (fun F hF _ => ⟨v'.ownBlock.toList, ⟨rfl, by rw [List.length_append, List.flatMap_append, ← hc]; exact r1⟩, by cases v'.ownBlock <;> simp, fun k hk => ?_⟩))
 have hk' : v'.ownBlock = some k := by simpa using hk
 refine ⟨?_, (r1.lt k hk').2⟩
 rcases amc (w7 ht).1 q1 q2 q4 q5 (hp.row hi) hlen hnews hone hb.2 hb.1 hr hk' with h4 | h4
 ·exact .inl (by rw [hF.1, h4]; simp)
 ·exact .inr h4
end ap
end Go.Proofs.YtifajndacnfcbaaDoor
namespace Go.Proofs.YtifajndacnfcbaaDoor
open Go Go.RowKit
variable {P : Program} {ops : Array Oper} {Q : Exit → Act → World → Prop} {C : Cx} {L : Sl} {H : List HA} {rest : List Oper} {o : Oper} {w : World}
theorem Hp.nilRow (h : Hp C H w) (T : TypeId) (sz : Nat) {α : Type} (f : α → List Value) : Hp C (.row (.slice none 0 0) T sz ([] : List α).length (([] : List α).flatMap f) :: H) w := by
 obtain ⟨F, h1, h2, h3⟩ := h.own
 exact ⟨h.os, h.tape, h.output, h.size, h.keep, h.ro, F, ⟨[], F, rfl, ⟨rfl, World.ownsRow_nil w 0 T sz⟩, h1⟩, h2, h3⟩
theorem Hp.asRow (h : Hp C H w) {i b m : Nat} {T : TypeId} {cs : List Value} {α : Type} {f : α → List Value} {ms : List α} {sz : Nat} (hi : H[i]? = some (.blk b (.cells cs.toArray T (0, 0)))) (hc : cs = ms.flatMap f) (hm : ms.length = m) (hf' : ∀ x, (f x).length = sz) (hl : m ≤ 9223372036854775807) :
  Hp C (H.set i (.row (.slice (some ⟨b, 0, none⟩) m m) T sz ms.length (ms.flatMap f))) w := by
 subst hm
 refine h.swap hi rfl rfl rfl (Nat.le_refl _) (fun _ _ _ _ _ => rfl) (fun F hF hn => ⟨F, ⟨?_, ?_, ?_⟩, hn, fun k hk => ⟨.inl hk, ?_⟩⟩)
 ·rw [hF.1]; rfl
 ·exact aag hf' ms
 ·exact .inr ⟨b, ms.length, cs.toArray, rfl, Nat.zero_le _, hF.2, Nat.le_refl _, by simp only [maxLen]; omega, by rw [List.size_toArray, hc, aag hf'], by rw [← aag hf' ms, ← hc]; simp⟩
 ·rw [hF.1] at hk; simp at hk; subst hk; exact aa9 hF.2
theorem WL.nilRow (T : TypeId) (sz : Nat) {α : Type} (f : α → List Value) (h : WL P ops Q C L (.row (.slice none 0 0) T sz ([] : List α).length (([] : List α).flatMap f) :: H) rest) : WL P ops Q C L H rest := fun a w hf hp => h a w hf (hp.nilRow T sz f)
theorem WC.nilRow {c : Code} (T : TypeId) (sz : Nat) {α : Type} (f : α → List Value) (h : WC P c Q C L (.row (.slice none 0 0) T sz ([] : List α).length (([] : List α).flatMap f) :: H)) : WC P c Q C L H := fun a w hf hp => h a w hf (hp.nilRow T sz f)
theorem QX.nilRow {e : Exit} (T : TypeId) (sz : Nat) {α : Type} (f : α → List Value) (h : QX Q e C L (.row (.slice none 0 0) T sz ([] : List α).length (([] : List α).flatMap f) :: H)) : QX Q e C L H := fun a w hf hp => h a w hf (hp.nilRow T sz f)
theorem WL.asRow {m : Nat} {α : Type} {f : α → List Value} {ms : List α} {sz : Nat} {b : Nat} {T : TypeId} {cs : List Value} (i : Nat) (hi : H[i]? = some (.blk b (.cells cs.toArray T (0, 0)))) (hc : cs = ms.flatMap f) (hm : ms.length = m) (hf' : ∀ x, (f x).length = sz) (hl : Nat.ble m 9223372036854775807 = true)
  (h : WL P ops Q C L (H.set i (.row (.slice (some ⟨b, 0, none⟩) m m) T sz ms.length (ms.flatMap f))) rest) : WL P ops Q C L H rest := fun a w hf hp => h a w hf (hp.asRow hi hc hm hf' (Nat.le_of_ble_eq_true hl))
theorem WC.asRow {c : Code} {m : Nat} {α : Type} {f : α → List Value} {ms : List α} {sz : Nat} {b : Nat} {T : TypeId} {cs : List Value} (i : Nat) (hi : H[i]? = some (.blk b (.cells cs.toArray T (0, 0)))) (hc : cs = ms.flatMap f) (hm : ms.length = m) (hf' : ∀ x, (f x).length = sz) (hl : Nat.ble m 9223372036854775807 = true)
  (h : WC P c Q C L (H.set i (.row (.slice (some ⟨b, 0, none⟩) m m) T sz ms.length (ms.flatMap f)))) : WC P c Q C L H := fun a w hf hp => h a w hf (hp.asRow hi hc hm hf' (Nat.le_of_ble_eq_true hl))
section mk
variable {x y : Operand} {t e' ty : TypeId} {p : String} {e : Array Edge} {g : Option (Nat × Bool)} {k k' : IntKind} {sz bytes : Nat} {zs : List Value} {d : Nat} {α : Type} {f : α → List Value}
end mk
theorem WL.storeSl {x y : Operand} {t ty T T' : TypeId} {p : String} {e : Array Edge} {g : Option (Nat × Bool)} {b off sz n : Nat} {v : Value} {xs cs cs' : List Value} (i k : Nat)
  (hx : ev L x = some (.pointer (some ⟨b, off, none⟩))) (hy : ev L y = some v) (hi : H[i]? = some (.blk b (.cells cs.toArray T (0, 0)))) (hk : H[k]? = some (.row v T' sz n xs)) (hs : o8 P t 1 = true)
  (hfit : off + 1 ≤ cs.length) (he : cs.take off ++ [v] ++ cs.drop (off + 1) = cs') (hw : p7 ops L ⟨none, .store t x y, ty, p, e, g⟩ = some true)
  (h : WL P ops Q C L (H.set i (.blk b (.cells cs'.toArray T (0, 0)))) rest) : WL P ops Q C L H (⟨none, .store t x y, ty, p, e, g⟩ :: rest) := by
 refine WL.op (fun K hK a w hf hp => ?_) hw h
 rcases (hp.row hk).2 with ⟨rfl, _⟩ | ⟨_, _, _, rfl, _⟩
 ·exact OpK.store (vs := [_]) i hx hy hi rfl hs hfit rfl he K hK a w hf hp
 ·exact OpK.store (vs := [_]) i hx hy hi rfl hs hfit rfl he K hK a w hf hp
def k8 (c : UInt8) : List Value := [.int .u8 (c.toNat : Int)]
theorem w6 (c : UInt8) : (k8 c).length = 1 := rfl
theorem OV.bytesRow {x : Operand} {t t' e' ty : TypeId} {d : Option Tmp} {p : String} {e : Array Edge} {g : Option (Nat × Bool)} {v : Value} {l : List UInt8} (i : Nat) (hx : ev L x = some v) (hi : H[i]? = some (.row v e' 1 l.length (l.flatMap k8))) (hs : slB P t e' 1 = true) (he : P.underlying e' = some (.int .u8)) (ht : ane P t' = true) :
  OV P C L H ⟨d, .convert t t' x, ty, p, e, g⟩ (st l) := fun a w hf hp => by
 obtain ⟨hl, hr⟩ := hp.row hi
 rcases hr with ⟨rfl, h0⟩ | ⟨b, cap, cur, rfl, _, hb, hn, _, hcs, htk⟩
 ·have : l = [] := List.eq_nil_of_length_eq_zero h0
  subst this
  simp only [execOp, hf.ev hx, Sem.run_bind, run_convert_bytes_nil w t e' (w7 hs).1 he 0 0 t' (aby ht), Result.andThen_ok, Sem.run_pure]
  rfl
 ·have hfl : l.flatMap k8 = l.map (fun c => Value.int .u8 (c.toNat : Int)) := by
   clear hx hi hl hb hn hcs htk
   induction l with
   | nil => rfl
   | cons c l ih => rw [List.flatMap_cons, ih]; rfl
  have hc : ∀ j (hj : j < l.length), w.cell? ((⟨b, 0, none⟩ : Addr).add j) = some (.int .u8 (l[j].toNat : Int)) := fun j hj => by
   rw [Addr.add_mid, Nat.zero_add]
   have h1 : cur.toList[j]? = some (.int .u8 (l[j].toNat : Int)) := by
    have h2 : (cur.toList.take (l.length * 1))[j]? = some (.int .u8 (l[j].toNat : Int)) := by rw [htk, hfl]; simp [hj]
    rw [List.getElem?_take, if_pos (by omega)] at h2
    exact h2
   have h3 : cur[j]? = some (.int .u8 (l[j].toNat : Int)) := by simpa using h1
   simp [World.cell?, hb, h3]
  have hr := run_convert_bytes_back (P := P) w t t' e' ⟨b, 0, none⟩ cap l (w7 hs).1 he (aby ht) hc
  simp only [execOp, hf.ev hx, Sem.run_bind, hr, Result.andThen_ok, Sem.run_pure]
end Go.Proofs.YtifajndacnfcbaaDoor
namespace Go.Proofs.YtifajndacnfcbaaDoor
open Go Go.RowKit Go.Lib
variable {P : Program} {ops : Array Oper} {Q : Exit → Act → World → Prop} {C : Cx} {L : Sl} {H : List HA} {rest : List Oper}
theorem ai8 : ∀ l : List UInt8, l.flatMap k8 = l.map (fun c => Value.int .u8 (c.toNat : Int))
 | [] => rfl
 | c :: l => by rw [List.flatMap_cons, ai8 l]; rfl
theorem alk {w : World} {t u ty e : TypeId} {i : TypeInfo} (ht : P.underlying t = some (.slice e)) (hu : P.underlying u = some .string) (hi : P.info? e = some i) (hz : i.zero = some (.int .u8 0)) (hsize : i.size = 1) (hby : i.bytes = 1)
  {v : Value} {n : Nat} {xs : List Value} (hown : w.ownsRow 0 e 1 v n xs) {s : ByteArray} (hb : n + s.size ≤ 140737488355328) {v' : Value} {w' : World} (hr : (Builtin.append_ #[t, u] ty #[v, .string s]).run P w = .ok v' w') {k : Nat} (hk : v'.ownBlock = some k) : v.ownBlock = some k ∨ w.heap.size ≤ k := by
 rcases hown.2 with ⟨rfl, rfl⟩ | ⟨g, cap, cur, rfl, _, hg, hnc, _, hcs, _⟩
 ·by_cases hm : s.size = 0
  ·have : (Builtin.append_ #[t, u] ty #[.slice none 0 0, .string s]).run P w = .ok (.slice none 0 0) w := by
    simp [Builtin.append_, run_underlying ht, run_underlying hu, sizeOf, typeInfo, hi, Builtin.lenOf, Builtin.firstCells, hm]
   rw [this] at hr
   cases hr
   simp [Value.ownBlock] at hk
  ·rw [run_append_nil_string (P := P) w t u ty e i _ ht hu hi hz s (by omega) (by omega) (by rw [hby]; omega)] at hr
   cases hr
   simp [Value.ownBlock] at hk
   exact .inr (by omega)
 ·by_cases hroom : n + s.size ≤ cap
  ·rw [run_append_room_string (P := P) w t u ty e i ht hu hi hsize g n cap cur hg s hroom (by omega)] at hr
   cases hr
   exact .inl hk
  ·have holds : ∀ j q, xs[j]? = some q → w.cell? ((⟨g, 0, none⟩ : Addr).add j) = some q := hown.cells (g := g) rfl
   rw [run_append_grow_string (P := P) w t u ty e i _ ht hu hi hz ⟨g, 0, none⟩ n cap xs (by rw [hown.1, hsize]) holds s (by omega) (by omega) (growslice_fits (by omega) (by rw [hby]; omega))] at hr
   cases hr
   simp [Value.ownBlock] at hk
   exact .inr (by omega)
def avp (P : Program) (e : TypeId) : Prop := (P.info? e).map (fun i => (i.zero, i.size, i.bytes)) = some (some (.int .u8 0), 1, 1)
theorem WL.appendS {s x : Operand} {t u e' ty : TypeId} {p : String} {e : Array Edge} {v : Value} {l m : List UInt8} {d : Nat} (i : Nat) (hs : ev L s = some v) (hx : ev L x = some (st m)) (hi : H[i]? = some (.row v e' 1 l.length (l.flatMap k8)))
  (ht : slB P t e' 1 = true) (hu : ane P u = true) (hinf : avp P e') (hb : l.length + m.length ≤ 140737488355328) (hw : p7 ops L ⟨some d, .call ⟨.builtin .append, #[s, x], #[t, u]⟩, ty, p, e, none⟩ = some true) (hn : Nat.blt d C.n = true)
  (h : ∀ v', WL P ops Q C ((d, v') :: L) (H.set i (.row v' e' 1 (l ++ m).length ((l ++ m).flatMap k8))) rest) : WL P ops Q C L H (⟨some d, .call ⟨.builtin .append, #[s, x], #[t, u]⟩, ty, p, e, none⟩ :: rest) := by
 intro a w hf hp
 obtain ⟨inf, q1, q2⟩ := Option.map_eq_some_iff.1 hinf
 simp only [Prod.mk.injEq] at q2
 have hsz : (⟨m.toArray⟩ : ByteArray).size = m.length := by simp [ByteArray.size]
 obtain ⟨v', w', hr, r1, r2, _⟩ := run_append_own_string (P := P) w 0 t u ty e' inf (w7 ht).1 (aby hu) q1 q2.1 q2.2.1 q2.2.2 v l.length (l.flatMap k8) (hp.row hi) ⟨m.toArray⟩ (by rw [hsz]; simp only [maxLen]; omega) (by rw [hsz]; exact hb) (Nat.zero_le _)
 refine s7 (j9 hf hw) ?_
 unfold Oper.wp execOp
 simp only [resolve, invoke, builtin, Sem.run_bind, Sem.run_pure, Result.andThen_ok, List.map_toArray, List.map_cons, List.map_nil, hf.ev hs, hf.ev hx, hr]
 refine h v' _ w' (hf.put hn v') (hp.swap hi r2.os r2.tape r2.output r2.size (fun F hF k hk hkF => r2.block k hk (fun e => hkF (by rw [hF.1, ← e]; simp))) (fun F hF _ => ⟨v'.ownBlock.toList, ⟨rfl, ?_⟩, by cases v'.ownBlock <;> simp, fun k hk => ?_⟩))
 ·have hc : strCells ⟨m.toArray⟩ = m.flatMap k8 := by rw [ai8]; simp [strCells]
  rw [hsz, hc] at r1
  rw [List.length_append, List.flatMap_append]; exact r1
 ·have hk' : v'.ownBlock = some k := by simpa using hk
  refine ⟨?_, (r1.lt k hk').2⟩
  rcases alk (w7 ht).1 (aby hu) q1 q2.1 q2.2.1 q2.2.2 (hp.row hi) (by rw [hsz]; exact hb) hr hk' with h4 | h4
  ·exact .inl (by rw [hF.1, h4]; simp)
  ·exact .inr h4
end Go.Proofs.YtifajndacnfcbaaDoor
namespace Go.Proofs.YtifajndacnfcbaaDoor
open Go Go.RowKit
variable {P : Program} {C : Cx} {L : Sl} {H : List HA}
def aan (P : Program) (ft : TypeId) (a b : Value) (r : Bool) : Prop := ∀ d w, (Op.equalIn (d + 1) ft a b).run P w = .ok r w
theorem aan.int {ft : TypeId} {k k' : IntKind} {a b : Int} (h : P.underlying ft = some (.int k')) : aan P ft (.int k a) (.int k b) (decide (a = b)) := fun d w => by
 rw [run_equalIn_int w d ft k k' a b h]
 congr 1
theorem aan.bool {ft : TypeId} {a b : Bool} (h : P.underlying ft = some .bool) : aan P ft (.bool a) (.bool b) (a == b) := fun d w => run_equalIn_bool w d ft a b h
theorem aan.str {ft : TypeId} {a b : List UInt8} (h : P.underlying ft = some .string) : aan P ft (st a) (st b) (decide (a = b)) := fun d w => by
 rw [run_equalIn_string w d ft _ _ h]
 congr 1; rw [ByteArray.toList_eq, ByteArray.toList_eq, Bool.eq_iff_iff]; simp
def aol (P : Program) (xs ys : List Value) : List Field → List Bool → Prop
 | [], [] => True
 | f :: fs, r :: rs => (f.name == "_") = false ∧ aal P f.type = true ∧ (∃ a b, xs[f.offset]? = some a ∧ ys[f.offset]? = some b ∧ aan P f.type a b r) ∧ aol P xs ys fs rs
 | _, _ => False
def abi : List Bool → Bool
 | [] => true
 | [r] => r
 | r :: rs => r && abi rs
theorem ape (r : Bool) (rs : List Bool) : abi (r :: rs) = (r && abi rs) := by
 cases rs <;> simp [abi]
theorem akh {xs ys : List Value} {d : Nat} {w : World} : ∀ {fs : List Field} {rs : List Bool}, aol P xs ys fs rs → (Op.eqFields (d + 1) xs.toArray ys.toArray fs).run P w = .ok (abi rs) w
 | [], [], _ => by simp [Op.eqFields, abi]
 | f :: fs, r :: rs, ⟨hn, hs, ⟨a, b, ha, hb, hr⟩, h⟩ => by
  have ih := akh (d := d) (w := w) h
  have hn' : ¬ f.name = "_" := by simpa using hn
  have p1 : (part f.type xs.toArray f.offset).run P w = .ok a w := by simp [part, aaq hs, ha]
  have p2 : (part f.type ys.toArray f.offset).run P w = .ok b w := by simp [part, aaq hs, hb]
  rw [ape]
  simp only [Op.eqFields, hn', ne_eq, not_false_eq_true, if_true, Sem.run_bind, p1, p2, Result.andThen_ok, hr d w]
  cases r
  ·simp
  ·simpa using ih
 | [], _ :: _, h => h.elim
 | _ :: _, [], h => h.elim
theorem aib {t : TypeId} {xs ys : List Value} {fs : Array Field} {rs : List Bool} (hu : P.underlying t = some (.struct fs)) (hp : P.stoodInHeld t = false) (hF : aol P xs ys fs.toList rs) (w : World) : (Op.equalIn 10000 t (.agg xs.toArray) (.agg ys.toArray)).run P w = .ok (abi rs) w := by
 have hfo : P.fieldsOf t = fs := by simp [Program.fieldsOf, hu]
 rw [run_equalIn_struct w 9999 t _ _ (by rw [hfo]; exact hu) hp, hfo]
 exact akh hF
section ov
variable {x y : Operand} {t t' ty : TypeId} {d : Option Tmp} {p : String} {e : Array Edge} {g : Option (Nat × Bool)} {xs ys : List Value} {fs : Array Field} {rs : List Bool}
theorem OV.eqlF (hx : ev L x = some (.agg xs.toArray)) (hy : ev L y = some (.agg ys.toArray)) (hu : P.underlying t = some (.struct fs)) (hp : P.stoodInHeld t = false) (hm : P.eqGuardType P.depth t = false) (hF : aol P xs ys fs.toList rs) :
  OV P C L H ⟨d, .binOp .eql t x y t', ty, p, e, g⟩ (.bool (abi rs)) := fun a w hf _ => by
 simp only [execOp, hf.ev hx, hf.ev hy, Sem.run_bind, run_eqGuard_agg w .eql t x y _ _ hm, Result.andThen_ok, run_eql_struct, aib hu hp hF, Sem.run_pure]
theorem OV.neqF (hx : ev L x = some (.agg xs.toArray)) (hy : ev L y = some (.agg ys.toArray)) (hu : P.underlying t = some (.struct fs)) (hp : P.stoodInHeld t = false) (hm : P.eqGuardType P.depth t = false) (hF : aol P xs ys fs.toList rs) :
  OV P C L H ⟨d, .binOp .neq t x y t', ty, p, e, g⟩ (.bool (!abi rs)) := fun a w hf _ => by
 simp only [execOp, hf.ev hx, hf.ev hy, Sem.run_bind, run_eqGuard_agg w .neq t x y _ _ hm, Result.andThen_ok, run_neq_struct, aib hu hp hF, Sem.run_pure]
end ov
end Go.Proofs.YtifajndacnfcbaaDoor
namespace Go.Proofs.YtifajndacnfcbaaDoor
open Go Go.RowKit Go.Lib
variable {P : Program} {ops : Array Oper} {Q : Exit → Act → World → Prop} {C : Cx} {L : Sl} {H : List HA} {rest : List Oper}
section ov
variable {x y : Operand} {t t' ty u : TypeId} {d : Option Tmp} {p : String} {e : Array Edge} {g : Option (Nat × Bool)}
theorem ak8 (h : P.underlying t = some (.pointer u)) : P.underlying t = some (.pointer (P.pointee t)) := by
 have : P.pointee t = u := by simp [Program.pointee, h]
 rw [this]; exact h
theorem OV.eqlPN {q : Option Addr} (hx : ev L x = some (.pointer q)) (hy : ev L y = some (.pointer none)) (h : P.underlying t = some (.pointer u)) : OV P C L H ⟨d, .binOp .eql t x y t', ty, p, e, g⟩ (.bool q.isNone) := fun a w hf _ => by
 simp [execOp, hf.ev hx, hf.ev hy, eqGuard, run_eql_pointer_nil w t q (ak8 h)]
theorem OV.neqPN {q : Option Addr} (hx : ev L x = some (.pointer q)) (hy : ev L y = some (.pointer none)) (h : P.underlying t = some (.pointer u)) : OV P C L H ⟨d, .binOp .neq t x y t', ty, p, e, g⟩ (.bool (!q.isNone)) := fun a w hf _ => by
 simp [execOp, hf.ev hx, hf.ev hy, eqGuard, run_neq_pointer_nil w t q (ak8 h)]
theorem OV.neqPS {q : Addr} (hx : ev L x = some (.pointer (some q))) (hy : ev L y = some (.pointer (some q))) (h : P.underlying t = some (.pointer u)) (hi : (P.info? u).isSome = true) : OV P C L H ⟨d, .binOp .neq t x y t', ty, p, e, g⟩ (.bool false) := fun a w hf _ => by
 obtain ⟨j, hj⟩ := Option.isSome_iff_exists.1 hi
 simp [execOp, hf.ev hx, hf.ev hy, eqGuard, run_neq_ptr_same w q h hj]
theorem OV.toUnsafe {b T : Nat} {cs : List Value} {fr : Nat × Nat} {src dst : TypeId} (hx : ev L x = some (.pointer (some ⟨b, 0, none⟩))) (hb : At C H b (.cells cs.toArray T fr)) (hs : P.underlying src = some (.pointer u)) (hd : P.underlying dst = some .unsafePointer)
  (hi : ((P.info? u).map (fun i => i.size != 0)) = some true) (hn : Nat.blt 0 cs.length = true) : OV P C L H ⟨d, .convert src dst x, ty, p, e, g⟩ (.pointer (some ⟨b, 0, none⟩)) := fun a w hf hp => by
 obtain ⟨j, hj, hz⟩ := Option.map_eq_some_iff.1 hi
 have hsh : w.shape? b = some (T, cs.length) := by simp [World.shape?, hb w hp]
 simp only [execOp, hf.ev hx, Sem.run_bind]
 rw [run_to_unsafe w ⟨b, 0, none⟩ hs hd hj (by simpa using hz) hsh (by simpa using (Nat.blt_eq ▸ hn : 0 < cs.length))]
 rfl
theorem OV.fromUnsafe {b T n : Nat} {cs : List Value} {fr : Nat × Nat} {src dst : TypeId} (hx : ev L x = some (.pointer (some ⟨b, 0, none⟩))) (hb : At C H b (.cells cs.toArray T fr)) (hs : P.underlying src = some .unsafePointer) (hd : P.underlying dst = some (.pointer u))
  (hi : (P.info? u).isSome = true) (hl : liesAt P P.depth T (n / P.cellsOf T) 0 u 1 = true) (hn : cs.length = n := by rfl) : OV P C L H ⟨d, .convert src dst x, ty, p, e, g⟩ (.pointer (some ⟨b, 0, none⟩)) := fun a w hf hp => by
 obtain ⟨j, hj⟩ := Option.isSome_iff_exists.1 hi
 have hsh : w.shape? b = some (T, n) := by simp [World.shape?, hb w hp, hn]
 simp only [execOp, hf.ev hx, Sem.run_bind]
 rw [run_from_unsafe w ⟨b, 0, none⟩ hs hd hj hsh hl]
 rfl
theorem OV.noEscape {f : FuncId} {fn : Func} {ats : Array TypeId} {v : Value} (hx : ev L x = some v) (hf' : P.funcs[f]? = some fn) (hname : (fn.name == "runtime.NumGoroutine") = false) (hb : fn.body.isNone = true) (hn : Extern.findNext fn = none) (he : Extern.find fn = some Extern.AbiNoEscape.same) :
  OV P C L H ⟨d, .call ⟨.value (.func f), #[x], ats⟩, ty, p, e, g⟩ v := fun a w hf _ => by
 have hr : (callFunc f #[a.eval x]).run P w = .ok (.value v) w := by
  rw [run_callFunc_extern hf' hname hb hn he, hf.ev hx, run_noEscape]; rfl
 simp [execOp, resolve, Act.eval, invoke, Deferred.ofValue]
 simpa [Act.eval] using hr
end ov
def ayg (T e : TypeId) (b : Nat) (l : List UInt8) (w : World) (F : List Nat) : Prop :=
 ∃ q v, (q = .pointer none ∨ q = .pointer (some ⟨b, 0, none⟩)) ∧ F = b :: v.ownBlock.toList ∧ w.heap[b]? = some (.cells [q, v].toArray T (0, 0)) ∧ w.ownsRow 0 e 1 v l.length (l.flatMap k8)
theorem aqp (T e : TypeId) (b : Nat) (l : List UInt8) : aud (ayg T e b l) := by
 rintro w w' F ⟨q, v, hq, rfl, hb, h1, hr⟩ hk
 refine ⟨q, v, hq, rfl, by rw [hk b (by simp)]; exact hb, h1, ?_⟩
 rcases hr with hr | ⟨g, cap, cur, rfl, h2, hg, h3⟩
 ·exact .inl hr
 ·exact .inr ⟨g, cap, cur, rfl, h2, by rw [hk g (by simp [Value.ownBlock])]; exact hg, h3⟩
def bld (T e : TypeId) (b : Nat) (l : List UInt8) : HA := .gen (ayg T e b l) (aqp T e b l)
variable {T e' : TypeId} {b : Nat} {l : List UInt8} {q v : Value} {w : World} {F : List Nat} {A : List HA}
theorem Own.openBld (h : Own w (bld T e' b l :: A) F) : ∃ q v, (q = .pointer none ∨ q = .pointer (some ⟨b, 0, none⟩)) ∧ Own w (.blk b (.cells [q, v].toArray T (0, 0)) :: .row v e' 1 l.length (l.flatMap k8) :: A) F := by
 obtain ⟨F1, F2, rfl, ⟨q, v, hq, rfl, hb, hr⟩, h2⟩ := h
 exact ⟨q, v, hq, [b], v.ownBlock.toList ++ F2, by simp, ⟨rfl, hb⟩, v.ownBlock.toList, F2, rfl, ⟨rfl, hr⟩, h2⟩
theorem Own.closeBld (hq : q = .pointer none ∨ q = .pointer (some ⟨b, 0, none⟩)) (h : Own w (.blk b (.cells [q, v].toArray T (0, 0)) :: .row v e' 1 l.length (l.flatMap k8) :: A) F) : Own w (bld T e' b l :: A) F := by
 obtain ⟨F1, F2, rfl, ⟨rfl, hb⟩, F3, F4, rfl, ⟨rfl, hr⟩, h2⟩ := h
 exact ⟨b :: v.ownBlock.toList, F4, by simp, ⟨q, v, hq, rfl, hb, hr⟩, h2⟩
theorem Hp.closeBld (hq : q = .pointer none ∨ q = .pointer (some ⟨b, 0, none⟩)) (h : Hp C (.blk b (.cells [q, v].toArray T (0, 0)) :: .row v e' 1 l.length (l.flatMap k8) :: A) w) : Hp C (bld T e' b l :: A) w := by
 obtain ⟨F, h1, h2⟩ := h.own
 exact ⟨h.os, h.tape, h.output, h.size, h.keep, h.ro, F, h1.closeBld hq, h2⟩
theorem WL.asBld (e' : TypeId) (h : WL P ops Q C L (bld T e' b [] :: H) rest) : WL P ops Q C L (.blk b (.cells [.pointer none, .slice none 0 0].toArray T (0, 0)) :: H) rest := fun a w hf hp =>
 h a w hf (Hp.closeBld (q := .pointer none) (v := .slice none 0 0) (.inl rfl) (by
  have h1 := hp.nilRow e' 1 k8
  exact h1.pick [1, 0] rfl |> fun h2 => by
   obtain ⟨F, k1, k2, k3⟩ := hp.own
   obtain ⟨F1, F2, rfl, hb, hA⟩ := k1
   exact ⟨hp.os, hp.tape, hp.output, hp.size, hp.keep, hp.ro, F1 ++ F2, ⟨F1, F2, rfl, hb, [], F2, rfl, ⟨rfl, World.ownsRow_nil w 0 e' 1⟩, hA⟩, k2, k3⟩))
section does
variable {f : FuncId} {args : List Value} {R : List (Nat × Obj)} {S : Out → Prop} {r : Value} {A' : List HA}
theorem d9.openBld (h : ∀ q v, (q = .pointer none ∨ q = .pointer (some ⟨b, 0, none⟩)) → d9 P f args R (.blk b (.cells [q, v].toArray T (0, 0)) :: .row v e' 1 l.length (l.flatMap k8) :: A) S) : d9 P f args R (bld T e' b l :: A) S := fun w M hO hn hl hR => by
 obtain ⟨q, v, hq, hO'⟩ := hO.openBld
 exact h q v hq w M hO' hn hl hR
theorem d9.closeBld (h : d9 P f args R A (fun o => ∃ q v, (q = .pointer none ∨ q = .pointer (some ⟨b, 0, none⟩)) ∧ o = .ret r (.blk b (.cells [q, v].toArray T (0, 0)) :: .row v e' 1 l.length (l.flatMap k8) :: A'))) : d9 P f args R A (Ret r (bld T e' b l :: A')) := fun w M hO hn hl hR => by
 refine (h w M hO hn hl hR).mono ?_
 rintro en w' ⟨H', hS, hp⟩
 rcases hS with ⟨r, rfl, q, v, hq, ho⟩ | ⟨c, rfl, q, v, hq, ho⟩
 ·cases ho
  exact ⟨_, .inl ⟨_, rfl, rfl⟩, hp.closeBld hq⟩
 ·cases ho
end does
end Go.Proofs.YtifajndacnfcbaaDoor
namespace Go.Proofs.YtifajndacnfcbaaDoor
open Go Go.RowKit
variable {P : Program} {ops : Array Oper} {Q : Exit → Act → World → Prop} {C : Cx} {L : Sl} {H : List HA} {rest : List Oper} {w : World}
def al5 (v : Value) : Nat := match v with
 | .slice (some a) _ _ => a.off
 | _ => 0
def aqu (v : Value) (R : List (Nat × Obj)) (n : Nat) (xs : List Value) : Prop :=
 (n = 0 ∧ xs = [] ∧ (∃ a c, v = .slice a 0 c) ∧ R = []) ∨
 ∃ b off cap, ∃ cs : List Value, ∃ T fr, v = .slice (some ⟨b, off, none⟩) n cap ∧ R = [(b, .cells cs.toArray T fr)] ∧ (cs.drop off).take xs.length = xs
def LIn (C : Cx) (v : Value) (n : Nat) (xs : List Value) : Prop := ∃ R, aqu v R n xs ∧ ∀ p ∈ R, p ∈ C.R
theorem LIn.mk {v : Value} {R : List (Nat × Obj)} {n : Nat} {xs : List Value} (h : aqu v R n xs) (hR : ∀ p ∈ R, p ∈ C.R) : LIn C v n xs := ⟨R, h, hR⟩
section ov
variable {x y : Operand} {t e' ty : TypeId} {d : Option Tmp} {p : String} {e : Array Edge} {g : Option (Nat × Bool)} {v : Value} {k : IntKind} {sz n : Nat} {xs : List Value} {α : Type} [Inhabited α] {f : α → List Value} {l : List α}
theorem OV.lenIn (h : LIn C v n xs) (hx : ev L x = some v) (ht : slB P t e' sz = true) : OV P C L H ⟨d, .call ⟨.builtin .len, #[x], #[t]⟩, ty, p, e, g⟩ (.int .i64 (n : Int)) := by
 obtain ⟨R, hi, _⟩ := h
 rcases hi with ⟨rfl, _, ⟨a, c, rfl⟩, _⟩ | ⟨b, off, cap, cs, T, fr, rfl, _⟩ <;> exact OV.lenS hx ht
theorem OV.indexIn (h : LIn C v n xs) {j : Int} (hx : ev L x = some v) (hy : ev L y = some (.int k j)) (ht : slB P t e' sz = true) (hb : 0 ≤ j ∧ j < n) : OV P C L H ⟨d, .indexAddr t x y, ty, p, e, g⟩ (.pointer (some ⟨ab5 v, al5 v + j.toNat * sz, none⟩)) := by
 obtain ⟨R, hi, _⟩ := h
 rcases hi with ⟨rfl, _⟩ | ⟨b, off, cap, cs, T, fr, rfl, _⟩
 ·omega
 ·exact OV.indexSl hx hy ht hb rfl
theorem LIn.at (h : LIn C v n xs) (hne : xs ≠ []) : ∃ b off, ∃ cs : List Value, ∃ T fr, ab5 v = b ∧ al5 v = off ∧ At C H b (.cells cs.toArray T fr) ∧ (cs.drop off).take xs.length = xs := by
 obtain ⟨R, hi, hR⟩ := h
 rcases hi with ⟨_, h0, _⟩ | ⟨b, off, cap, cs, T, fr, rfl, rfl, hc⟩
 ·exact absurd h0 hne
 ·exact ⟨b, off, cs, T, fr, rfl, rfl, At.old (hR _ (by simp)), hc⟩
theorem OV.loadIn1 (h : LIn C v n xs) {off : Nat} {u : Value} (hx : ev L x = some (.pointer (some ⟨ab5 v, al5 v + off, none⟩))) (hc : xs[off]? = some u) (ht : aal P t = true) : OV P C L H ⟨d, .load t x, ty, p, e, g⟩ u := by
 obtain ⟨b, o, cs, T, fr, hb, ho, hA, hcs⟩ := h.at (H := H) (fun h => by subst h; simp at hc)
 rw [hb, ho] at hx
 refine OV.load hx hA ?_ ht
 have hlt : off < xs.length := (List.getElem?_eq_some_iff.1 hc).1
 rw [← hcs, List.getElem?_take, if_pos hlt, List.getElem?_drop] at hc
 exact hc
theorem OV.loadInM (h : LIn C v n xs) {off : Nat} {vs : List Value} (hx : ev L x = some (.pointer (some ⟨ab5 v, al5 v + off, none⟩))) (hv : (xs.drop off).take vs.length = vs) (hne : vs ≠ []) (ht : RowT P t vs.length) : OV P C L H ⟨d, .load t x, ty, p, e, g⟩ (.agg vs.toArray) := by
 obtain ⟨b, o, cs, T, fr, hb, ho, hA, hcs⟩ := h.at (H := H) (fun h => by subst h; simp at hv; exact hne hv)
 rw [hb, ho] at hx
 refine OV.loadM hx hA ?_ ht
 have hle : vs.length ≤ xs.length - off := by
  have := congrArg List.length hv
  rw [List.length_take, List.length_drop] at this; omega
 generalize xs.length = N at hcs hle
 rw [← hcs, List.drop_take, List.take_take, Nat.min_eq_left hle, List.drop_drop] at hv
 exact hv
theorem OV.loadInE (h : LIn C v l.length (l.flatMap f)) {j : Nat} (hx : ev L x = some (.pointer (some ⟨ab5 v, al5 v + j * sz, none⟩))) (hf' : ∀ x, (f x).length = sz) (h0 : 0 < sz) (hj : j < l.length) (ht : RowT P t sz) : OV P C L H ⟨d, .load t x, ty, p, e, g⟩ (.agg (f (l.getD j default)).toArray) :=
 OV.loadInM h hx (by rw [hf']; exact anu hf' hj) (fun h => by have := hf' (l.getD j default); rw [h, List.length_nil] at this; omega) (by rw [hf']; exact ht)
theorem OV.loadInE1 (h : LIn C v l.length (l.flatMap f)) {j : Nat} {u : Value} (hx : ev L x = some (.pointer (some ⟨ab5 v, al5 v + j * 1, none⟩))) (hf' : ∀ x, (f x).length = 1) (hj : j < l.length) (hu : (f (l.getD j default))[0]? = some u) (ht : aal P t = true) : OV P C L H ⟨d, .load t x, ty, p, e, g⟩ u :=
 OV.loadIn1 h hx (by have := akd hf' hj hu; simpa using this) ht
end ov
def LOk (C : Cx) (Rest : List HA) (v : Value) (n : Nat) (xs : List Value) : Prop := ∀ w F, Own w Rest F → ∃ R, aqu v R n xs ∧ ∀ p ∈ R, (w.heap[p.1]? = some p.2 ∧ p.1 ∈ F) ∨ p ∈ C.R
theorem Own.mem_row {w : World} : ∀ {H : List HA} {F : List Nat}, Own w H F → ∀ {i : Nat} {v : Value} {T sz n : Nat} {xs : List Value}, H[i]? = some (.row v T sz n xs) → w.ownsRow 0 T sz v n xs ∧ ∀ k, v.ownBlock = some k → k ∈ F
 | [], _, _, i, _, _, _, _, _, h => by simp at h
 | x :: H, F, ⟨F1, F2, hF, h1, h2⟩, i, v, T, sz, n, xs, h => by
  cases i with
  | zero =>
   simp at h
   subst h
   exact ⟨h1.2, fun k hk => by rw [hF, h1.1, hk]; simp⟩
  | succ i =>
   have := h2.mem_row (i := i) (by simpa using h)
   exact ⟨this.1, fun k hk => by rw [hF]; exact List.mem_append.2 (.inr (this.2 k hk))⟩
def aye (v : Value) (m : Nat) : Value := match v with
 | .slice a _ c => .slice a m c
 | v => v
theorem LOk.pre {Rest : List HA} {v : Value} {T sz n m : Nat} {xs : List Value} (i : Nat) (hi : Rest[i]? = some (.row v T sz n xs)) (hm : m ≤ n) : LOk C Rest (aye v m) m (xs.take (m * sz)) := fun w F hO => by
 obtain ⟨⟨hl, hr⟩, hmem⟩ := hO.mem_row hi
 rcases hr with ⟨rfl, rfl⟩ | ⟨b, cap, cur, rfl, _, hb, hn, hcm, hcs, htk⟩
 ·have h0 : m = 0 := by omega
  subst h0
  exact ⟨[], .inl ⟨rfl, by simp, ⟨none, 0, rfl⟩, rfl⟩, fun p hp => by cases hp⟩
 ·refine ⟨[(b, .cells cur T (0, 0))], .inr ⟨b, 0, cap, cur.toList, T, (0, 0), rfl, by simp, ?_⟩, fun p hp => ?_⟩
  ·rw [List.drop_zero, ← htk, List.take_take, List.length_take, Array.length_toList]
   have h1 : m * sz ≤ n * sz := Nat.mul_le_mul_right _ hm
   have h2 : n * sz ≤ cur.size := by rw [hcs]; exact Nat.mul_le_mul_right _ hn
   rw [Nat.min_eq_left h1, Nat.min_eq_left (by omega)]
  ·rw [List.mem_singleton.1 hp]
   exact .inl ⟨hb, hmem b rfl⟩
theorem LOk.row {Rest : List HA} {v : Value} {T sz n : Nat} {xs : List Value} (i : Nat) (hi : Rest[i]? = some (.row v T sz n xs)) : LOk C Rest v n xs := fun w F hO => by
 obtain ⟨⟨hl, hr⟩, _⟩ := hO.mem_row hi
 obtain ⟨R, h1, h2⟩ := LOk.pre (C := C) i hi (Nat.le_refl n) w F hO
 have : aye v n = v := by rcases hr with ⟨rfl, rfl⟩ | ⟨b, cap, cur, rfl, _⟩ <;> rfl
 rw [this, ← hl, List.take_length] at h1
 exact ⟨R, h1, h2⟩
section call
variable {f : FuncId} {xs : List Operand} {ats : Array TypeId} {d : Nat} {ty : TypeId} {p : String} {e : Array Edge} {g : Option (Nat × Bool)} {vs : List Value} {R0 : List (Nat × Obj)} {A Rest : List HA} {S : Out → Prop} {v : Value} {A' : List HA} {v1 v2 : Value} {n1 n2 : Nat} {xs1 xs2 : List Value}
end call
theorem av4 {P : Program} {t e : TypeId} (h : P.underlying t = some (.slice e)) : P.underlying t = some (.slice (P.elem t)) := by
 have : P.elem t = e := by simp [Program.elem, h]
 rw [this]; exact h
def ary (v : Value) (sz lo hi : Nat) : Value := match v with
 | .slice a _ c => .slice (if c = lo then a else a.map (·.add (lo * sz))) (hi - lo) (c - lo)
 | v => v
theorem LOk.sub {Rest : List HA} {v : Value} {T sz lo hi : Nat} {α : Type} {f : α → List Value} {l : List α} (i : Nat) (hi' : Rest[i]? = some (.row v T sz l.length (l.flatMap f))) (hf' : ∀ x, (f x).length = sz) (hb : lo ≤ hi ∧ hi ≤ l.length) : LOk C Rest (ary v sz lo hi) ((l.drop lo).take (hi - lo)).length (((l.drop lo).take (hi - lo)).flatMap f) := fun w F hO => by
 obtain ⟨⟨hl, hr⟩, hmem⟩ := hO.mem_row hi'
 have hlen : ((l.drop lo).take (hi - lo)).length = hi - lo := by rw [List.length_take, List.length_drop]; omega
 rw [hlen]
 rcases hr with ⟨rfl, h0⟩ | ⟨b, cap, cur, rfl, _, hb', hn, hcm, hcs, htk⟩
 ·have hlo : hi - lo = 0 := by omega
  have : (l.drop lo).take (hi - lo) = [] := by rw [hlo]; rfl
  rw [this, hlo]
  refine ⟨[], .inl ⟨rfl, rfl, ⟨if 0 = lo then none else none, 0 - lo, ?_⟩, rfl⟩, fun p hp => by cases hp⟩
  dsimp only [ary]; rw [hlo]; rfl
 ·by_cases hz : hi - lo = 0
  ·have : (l.drop lo).take (hi - lo) = [] := by rw [hz]; rfl
   rw [this, hz]
   refine ⟨[], .inl ⟨rfl, rfl, ⟨if cap = lo then some ⟨b, 0, none⟩ else some ((⟨b, 0, none⟩ : Addr).add (lo * sz)), cap - lo, ?_⟩, rfl⟩, fun p hp => by cases hp⟩
   dsimp only [ary]; rw [hz]; rfl
  ·refine ⟨[(b, .cells cur T (0, 0))], .inr ⟨b, lo * sz, cap - lo, cur.toList, T, (0, 0), ?_, by simp, ?_⟩, fun p hp => ?_⟩
   ·dsimp only [ary]
    rw [if_neg (by omega)]
    simp [Addr.add_mid]
   ·rw [aag hf', hlen]
    have h1 : ((cur.toList.drop (lo * sz)).take ((hi - lo) * sz)) = (((cur.toList.take (l.length * sz)).drop (lo * sz)).take ((hi - lo) * sz)) := by
     rw [List.drop_take, List.take_take, Nat.min_eq_left]
     rw [← Nat.sub_mul]
     exact Nat.mul_le_mul_right _ (by omega)
    rw [h1, htk, aja hf']
    have h2 : ∀ (m : List α) (q : Nat), q ≤ m.length → (m.flatMap f).take (q * sz) = (m.take q).flatMap f := fun m q hq => by
     have h3 : m.flatMap f = (m.take q).flatMap f ++ (m.drop q).flatMap f := by rw [← List.flatMap_append, List.take_append_drop]
     rw [h3, List.take_left' (by rw [aag hf', List.length_take, Nat.min_eq_left hq])]
    exact h2 _ _ (by rw [List.length_drop]; omega)
   ·rw [List.mem_singleton.1 hp]
    exact .inl ⟨hb', hmem b rfl⟩
end Go.Proofs.YtifajndacnfcbaaDoor
namespace Go.Proofs.YtifajndacnfcbaaDoor
open Go Go.RowKit
variable {P : Program} {ops : Array Oper} {Q : Exit → Act → World → Prop} {C : Cx} {L : Sl} {H : List HA} {rest : List Oper} {o : Oper} {w : World}
def are (sz : Nat) : Value → Value
 | .slice a n c => .slice (if c = 1 then a else a.map (·.add sz)) (n - 1) (c - 1)
 | v => v
def l5 (v : Value) (sz : Nat) : Nat → Value
 | 0 => v
 | k + 1 => are sz (l5 v sz k)
theorem arg {b n cap sz : Nat} (hn : n ≤ cap) : ∀ k, k ≤ n → ∃ a, l5 (.slice (some ⟨b, 0, none⟩) n cap) sz k = .slice a (n - k) (cap - k) ∧ (k < n → a = some ⟨b, k * sz, none⟩)
 | 0, _ => ⟨_, rfl, fun _ => by rw [Nat.zero_mul]⟩
 | k + 1, h => by
  obtain ⟨a, h1, h2⟩ := arg (b := b) (sz := sz) hn k (by omega)
  refine ⟨if cap - k = 1 then a else a.map (·.add sz), ?_, fun h3 => ?_⟩
  ·show l5 _ sz (k + 1) = _
   rw [l5, h1, are]
   rfl
  ·rw [h2 (by omega), if_neg (by omega), Nat.add_mul, Nat.one_mul]
   simp [Addr.add]
theorem apr {T : TypeId} {sz n k : Nat} {v : Value} {xs : List Value} (h : w.ownsRow 0 T sz v n xs) (hk : k ≤ n) : ∃ a c, l5 v sz k = .slice a (n - k) c ∧ n - k ≤ c ∧ (k < n → a = some ⟨ab5 v, k * sz, none⟩) := by
 rcases h.2 with ⟨rfl, rfl⟩ | ⟨b, cap, cur, rfl, _, _, hn, _⟩
 ·obtain rfl : k = 0 := by omega
  exact ⟨none, 0, rfl, by omega, fun h => by omega⟩
 ·obtain ⟨a, h1, h2⟩ := arg (b := b) (sz := sz) hn k hk
  exact ⟨a, cap - k, h1, by omega, h2⟩
section
variable {x y : Operand} {t e' ty T : TypeId} {d : Option Tmp} {p : String} {e : Array Edge} {g : Option (Nat × Bool)} {v : Value} {kk : IntKind} {sz n k : Nat} {xs : List Value}
theorem OV.indexSuf (i : Nat) {j : Int} (hx : ev L x = some (l5 v sz k)) (hy : ev L y = some (.int kk j)) (hi : H[i]? = some (.row v T sz n xs)) (ht : slB P t e' sz = true) (hb : 0 ≤ j ∧ (k : Int) + j < n) : OV P C L H ⟨d, .indexAddr t x y, ty, p, e, g⟩ (.pointer (some ⟨ab5 v, (k + j.toNat) * sz, none⟩)) := fun a w hf hp => by
 obtain ⟨a0, c, h1, _, h2⟩ := apr (k := k) (hp.row hi) (by omega)
 obtain rfl := h2 (by omega)
 rw [h1] at hx
 exact OV.indexSl hx hy ht ⟨hb.1, by omega⟩ (by rw [Nat.add_mul]) a w hf hp
theorem OV.sufNext (i : Nat) (hx : ev L x = some (l5 v sz k)) (hy : ev L y = some (.int kk 1)) (hi : H[i]? = some (.row v T sz n xs)) (ht : slB P t e' sz = true) (hb : k < n) :
  OV P C L H ⟨d, .slice t x (some y) none none, ty, p, e, g⟩ (l5 v sz (k + 1)) := fun a w hf hp => by
 have he := av4 (w7 ht).1
 have hs : (sizeOf (P.elem t)).run P w = .ok sz w := by
  have h1 := (w7 ht).2
  have h2 : P.elem t = e' := by simp [Program.elem, (w7 ht).1]
  rw [h2]; exact aes h1 w
 obtain ⟨a0, c, h1, hc, _⟩ := apr (k := k) (hp.row hi) (by omega)
 have h3 : l5 v sz (k + 1) = are sz (l5 v sz k) := rfl
 rw [h3, h1]
 rw [h1] at hx
 have hr := run_slice_l (P := P) (w := w) t a0 (n - k) c he kk 1 (by omega) (by omega)
 simp only [execOp, Option.map_some, Option.map_none, hf.ev hx, hf.ev hy, Sem.run_bind, run_sliceAt_slice (P := P) w t _ _ _ _ he, hr, hs, Result.andThen_ok, Sem.run_pure]
 simp [sliced, are]
end
section ap
variable {s x y z : Operand} {t e' ty T : TypeId} {p : String} {e : Array Edge} {v u : Value} {k k' : IntKind} {sz bytes : Nat} {zs cs : List Value} {α : Type} {f : α → List Value} {l ms : List α} {d : Nat}
end ap
section b0
variable {P : Program} {C : Cx} {L : Sl} {H : List HA}
end b0
end Go.Proofs.YtifajndacnfcbaaDoor
namespace Go.Proofs.YtifajndacnfcbaaDoor
open Go Go.RowKit
variable {P : Program} {ops : Array Oper} {Q : Exit → Act → World → Prop} {C : Cx} {L : Sl} {H : List HA} {rest : List Oper} {o : Oper}
theorem OV.cast {v v' : Value} (h : OV P C L H o v) (e : v = v') : OV P C L H o v' := e ▸ h
section iface
variable {x : Operand} {t t' t2 ty : TypeId} {d : Option Tmp} {p : String} {e : Array Edge} {g : Option (Nat × Bool)} {v z : Value}
def aih (P : Program) (t : TypeId) : Option Value := (P.info? t).bind (·.zero)
theorem ar6 (h : aih P t = some z) (w : World) : (zeroValue t).run P w = .ok z w := by
 unfold aih at h
 cases hq : P.info? t with
 | none => simp [hq] at h
 | some i =>
  simp only [hq, Option.bind_some] at h
  simp [zeroValue, typeInfo, hq, h]
def af3 (P : Program) (t : TypeId) : Bool := match P.underlying t with | some (.interface _) => false | some _ => true | none => false
theorem OV.assertYes (hx : ev L x = some (.iface t' v)) (hc : af3 P t' = true) : OV P C L H ⟨d, .typeAssert x t t' true, ty, p, e, g⟩ (.tuple #[v, .bool true]) := fun a w hf _ => by
 unfold af3 at hc
 cases hu : P.underlying t' with
 | none => rw [hu] at hc; cases hc
 | some dd =>
  have : (Instr.typeAssert (.iface t' v) t t' true).run P w = .ok (.tuple #[v, .bool true]) w := by
   unfold Instr.typeAssert
   rw [Sem.run_bind, s6 hu]
   cases dd <;> simp_all
  simp [execOp, hf.ev hx, this]
theorem OV.assertNo (hx : ev L x = some (.iface t2 v)) (hc : af3 P t' = true) (hz : aih P t' = some z) (hn : Nat.beq t2 t' = false) : OV P C L H ⟨d, .typeAssert x t t' true, ty, p, e, g⟩ (.tuple #[z, .bool false]) := fun a w hf _ => by
 unfold af3 at hc
 have hne : ¬ t2 = t' := fun h => by subst h; simp at hn
 cases hu : P.underlying t' with
 | none => rw [hu] at hc; cases hc
 | some dd =>
  have : (Instr.typeAssert (.iface t2 v) t t' true).run P w = .ok (.tuple #[z, .bool false]) w := by
   unfold Instr.typeAssert
   rw [Sem.run_bind, s6 hu]
   cases dd <;> simp_all [ar6 hz]
  simp [execOp, hf.ev hx, this]
end iface
def EN (P : Program) (C : Cx) (L : Sl) (H : List HA) (o : Oper) (f : FuncId) (vs : List Value) : Prop := ∀ a w, Fr C L a → Hp C H w → (execOp a.eval o).run P w = .ok (.enter f vs.toArray) w
section call
variable {f : FuncId} {xs : List Operand} {ats : Array TypeId} {d : Nat} {ty : TypeId} {p : String} {e : Array Edge} {g : Option (Nat × Bool)} {vs : List Value} {R : List (Nat × Obj)} {A Rest : List HA} {S : Out → Prop} {v : Value} {A' : List HA}
def agm (P : Program) (T : TypeId) (name : String) : Option FuncId := ((P.info? T).bind fun i => i.methods.find? (·.name == name)).bind fun m => if m.path.isEmpty then m.func.bind fun q => if q.2 then none else some q.1 else none
def aec (P : Program) (t : TypeId) : Bool := match P.underlying t with | some (.pointer _) => false | some _ => true | none => false
theorem EN.invoke {x : Operand} {T : TypeId} {name : String} {do_ : Option Tmp} (hx : ev L x = some (.iface T v)) (hm : agm P T name = some f) (hu : aec P T = true) (he : k9 P f = true) (hxs : evs L xs = some vs) :
  EN P C L H ⟨do_, .call ⟨.invoke x name, xs.toArray, ats⟩, ty, p, e, g⟩ f (v :: vs) := fun a w hf _ => by
 unfold agm at hm
 cases hi : P.info? T with
 | none => simp [hi] at hm
 | some i =>
  simp only [hi, Option.bind_some] at hm
  cases hq : i.methods.find? (·.name == name) with
  | none => simp [hq] at hm
  | some m =>
   simp only [hq, Option.bind_some] at hm
   split at hm
   ·rename_i hpath
    cases hfn : m.func with
    | none => simp [hfn] at hm
    | some q =>
     obtain ⟨f', pr⟩ := q
     simp only [hfn, Option.bind_some] at hm
     cases pr with
     | true => simp at hm
     | false =>
      simp only [Bool.false_eq_true, if_false, Option.some.injEq] at hm
      subst hm
      unfold aec at hu
      cases hT : P.underlying T with
      | none => rw [hT] at hu; cases hu
      | some dd =>
       have hrec : ∀ s, (receiverAt T (.val v) false s).run P w = .ok v w := fun s => by
        unfold receiverAt
        rw [Sem.run_bind, s6 hT]
        rw [hT] at hu
        cases dd <;> first | (simp at hu; done) | simp [Place.get]
       have hpl : m.path.toList = [] := by simpa using hpath
       have hmeth : (method ((P.types.size + Made.depth - 1) + 1) T v name).run P w = .ok (f', v) w := by
        unfold method
        simp [typeInfo, hi, hq, hpl, follow, hfn, hrec]
       have hsz : (P.types.size + Made.depth - 1) + 1 = P.types.size + Made.depth := by
        have : 0 < Made.depth := by decide
        omega
       rw [hsz] at hmeth
       have hmap : xs.toArray.map a.eval = vs.toArray := by rw [List.map_toArray, af7 hf hxs]
       simp only [execOp, resolve, hf.ev hx, hmap, Sem.run_bind, Sem.run_pure, Result.andThen_ok, Go.invoke]
       have hen := agf he (v :: vs).toArray w
       have h0 : (#[Value.iface T v] ++ vs.toArray)[0]? = some (Value.iface T v) := by simp
       have h1 : #[v] ++ (#[Value.iface T v] ++ vs.toArray).extract 1 (#[Value.iface T v] ++ vs.toArray).size = (v :: vs).toArray := by simp
       simp only [h0, callMethod, Sem.run_bind, run_program, Result.andThen_ok, hmeth, h1]
       exact hen
   ·cases hm
end call
def axe (B : List (Nat × Obj)) (w : World) (F : List Nat) : Prop := F = B.map Prod.fst ∧ ∀ p ∈ B, w.heap[p.1]? = some p.2
theorem apa (B : List (Nat × Obj)) : aud (axe B) := by
 rintro w w' F ⟨rfl, h⟩ hk
 exact ⟨rfl, fun p hp => by rw [hk p.1 (List.mem_map.2 ⟨p, hp, rfl⟩)]; exact h p hp⟩
def pool (B : List (Nat × Obj)) : HA := .gen (axe B) (apa B)
variable {B : List (Nat × Obj)} {b : Nat} {ob : Obj}
theorem Own.absorb {w : World} {F : List Nat} {A : List HA} (h : Own w (.blk b ob :: pool B :: A) F) : Own w (pool ((b, ob) :: B) :: A) F := by
 obtain ⟨F1, F2, rfl, ⟨rfl, hb⟩, F3, F4, rfl, ⟨rfl, hB⟩, h2⟩ := h
 refine ⟨b :: B.map Prod.fst, F4, by simp, ⟨by simp, fun p hp => ?_⟩, h2⟩
 rcases List.mem_cons.1 hp with rfl | hp
 ·exact hb
 ·exact hB p hp
theorem Hp.absorb {w : World} (h : Hp C (.blk b ob :: pool B :: H) w) : Hp C (pool ((b, ob) :: B) :: H) w := by
 obtain ⟨F, h1, h2⟩ := h.own
 exact ⟨h.os, h.tape, h.output, h.size, h.keep, h.ro, F, h1.absorb, h2⟩
theorem QX.absorb {e : Exit} (h : QX Q e C L (pool ((b, ob) :: B) :: H)) : QX Q e C L (.blk b ob :: pool B :: H) := fun a w hf hp => h a w hf hp.absorb
theorem WL.absorb {l : List Oper} (h : WL P ops Q C L (pool ((b, ob) :: B) :: H) l) : WL P ops Q C L (.blk b ob :: pool B :: H) l := fun a w hf hp => h a w hf hp.absorb
theorem WC.absorb {c : Code} (h : WC P c Q C L (pool ((b, ob) :: B) :: H)) : WC P c Q C L (.blk b ob :: pool B :: H) := fun a w hf hp => h a w hf hp.absorb
theorem WL.newPool {l : List Oper} (h : WL P ops Q C L (pool [] :: H) l) : WL P ops Q C L H l := fun a w hf hp => h a w hf (by
 obtain ⟨F, h1, h2⟩ := hp.own
 exact ⟨hp.os, hp.tape, hp.output, hp.size, hp.keep, hp.ro, F, ⟨[], F, rfl, ⟨rfl, fun p hp => by cases hp⟩, h1⟩, h2⟩)
theorem WC.newPool {c : Code} (h : WC P c Q C L (pool [] :: H)) : WC P c Q C L H := fun a w hf hp => h a w hf (by
 obtain ⟨F, h1, h2⟩ := hp.own
 exact ⟨hp.os, hp.tape, hp.output, hp.size, hp.keep, hp.ro, F, ⟨[], F, rfl, ⟨rfl, fun p hp => by cases hp⟩, h1⟩, h2⟩)
theorem Own.mem_pool {w : World} : ∀ {H : List HA} {F : List Nat}, Own w H F → ∀ {i : Nat}, H[i]? = some (pool B) → ∀ p ∈ B, w.heap[p.1]? = some p.2 ∧ p.1 ∈ F
 | [], _, _, i, h => by simp at h
 | y :: H, _, ⟨F1, F2, hF, h1, h2⟩, i, h => by
  intro p hp
  cases i with
  | zero =>
   simp at h
   subst h
   obtain ⟨rfl, hB⟩ := h1
   exact ⟨hB p hp, by rw [hF]; exact List.mem_append.2 (.inl (List.mem_map.2 ⟨p, hp, rfl⟩))⟩
  | succ i =>
   have := h2.mem_pool (i := i) (by simpa using h) p hp
   exact ⟨this.1, by rw [hF]; exact List.mem_append.2 (.inr this.2)⟩
end Go.Proofs.YtifajndacnfcbaaDoor
namespace Go.Proofs.YtifajndacnfcbaaDoor
open Go Go.RowKit
variable {P : Program} {ops : Array Oper} {Q : Exit → Act → World → Prop} {C : Cx} {L : Sl} {H : List HA} {rest : List Oper} {o : Oper} {md : Region.Mode} {S : World → Prop} {q : Nat}
theorem EN.fn {f : FuncId} {xs : List Operand} {ats : Array TypeId} {d : Option Tmp} {ty : TypeId} {p : String} {e : Array Edge} {g : Option (Nat × Bool)} {vs : List Value} (he : k9 P f = true) (hx : evs L xs = some vs) :
  EN P C L H ⟨d, .call ⟨.value (.func f), xs.toArray, ats⟩, ty, p, e, g⟩ f vs := fun _ _ hf _ => ae8 he hf hx
def af2 (P : Program) (md : Region.Mode) (ops : Array Oper) (Q : Exit → Act → World → Prop) (S : World → Prop) (q : Nat) : Nat → Array Bool → Act → World → Prop
 | 0, listed, a, w => Region.ready md ops listed = [] ∧ Q .normal a w
 | fuel + 1, listed, a, w =>
  (Region.ready md ops listed = [] → Q .normal a w) ∧
  ∀ i ∈ Region.ready md ops listed, wpOp P ops Q i (fun a' w' => (i ≠ q → S w') ∧ af2 P md ops Q S q fuel (listed.setIfInBounds i true) a' w') a w
theorem aki : ∀ (fuel : Nat) (listed : Array Bool) (a : Act) (w : World), af2 P md ops Q S q fuel listed a w → wpAny P md ops Q fuel listed a w
 | 0, _, _, _, h => h
 | fuel + 1, _, _, _, h => ⟨h.1, fun i hi => wpOp_mono (fun a' w' h' => aki fuel _ a' w' h'.2) (h.2 i hi)⟩
theorem ant {i : Nat} {oi : Oper} {v : Value} (hi : ops[i]? = some oi) (hsel : ∀ (j : Nat) (o : Oper) cs b, ops[j]? = some o → o.op ≠ .select cs b)
  (hQ : ∀ c a w, Q (.panic c) (a.put oi.dst v) w → Q (.panic c) a w) (hlast : ∀ oq, ops[q]? = some oq → ∃ e ∈ oq.after, Region.binds md e = true ∧ e.on = i) :
  ∀ (fuel : Nat) (listed : Array Bool) (a : Act) (w : World),
   (∀ j oj, ops[j]? = some oj → j ≠ i → listed.getD j true = false → (∀ e ∈ oj.after, Region.binds md e = true → e.on ≠ i) → oi.apart ops oj = true) →
   i ∈ Region.ready md ops listed → YieldsIf P ops S oi v a → S w →
   af2 P md ops Q S q fuel (listed.setIfInBounds i true) (a.put oi.dst v) w → af2 P md ops Q S q (fuel + 1) listed a w := by
 intro fuel
 induction fuel with
 | zero =>
  intro listed a w _ hr hy hS H
  refine ⟨fun h => (by rw [h] at hr; cases hr), fun j hj => ?_⟩
  by_cases hji : j = i
  ·subst hji; exact hy.wpOp hi hS ⟨fun _ => hS, H⟩
  ·have := ready_mono hj hji
   rw [H.1] at this
   cases this
 | succ fuel ih =>
  intro listed a w hfree hr hy hS H
  refine ⟨fun h => (by rw [h] at hr; cases hr), fun j hj => ?_⟩
  by_cases hji : j = i
  ·subst hji; exact hy.wpOp hi hS ⟨fun _ => hS, H⟩
  ·have h1 := H.2 j (ready_mono hj hji)
   obtain ⟨hjun, oj, hoj, hall⟩ := mem_ready.1 hj
   have hnot : ∀ e ∈ oj.after, Region.binds md e = true → e.on ≠ i := fun e he hb heq => by
    have h1 := hall e he hb
    have h0 := (mem_ready.1 hr).1
    rw [heq] at h1
    rcases Nat.lt_or_ge i listed.size with h' | h'
    ·simp [h'] at h0 h1; rw [h0] at h1; cases h1
    ·simp [Array.getElem?_eq_none h'] at h1
   have hjq : j ≠ q := fun e => by
    subst e
    obtain ⟨e, he, hb, hon⟩ := hlast oj hoj
    exact hnot e he hb hon
   have h2 := wpOp_putIf hoj (hfree j oj hoj hji hjun hnot) (fun cs b => hsel i oi cs b hi) (fun cs b => hsel j oj cs b hoj) hQ hy h1
   have hfree' : ∀ k ok, ops[k]? = some ok → k ≠ i → (listed.setIfInBounds j true).getD k true = false →
     (∀ e ∈ ok.after, Region.binds md e = true → e.on ≠ i) → oi.apart ops ok = true := fun k ok hk hki hun hno => by
    refine hfree k ok hk hki ?_ hno
    by_cases hjk : j = k
    ·subst hjk; exact hjun
    ·rw [getD_set_ne true hjk] at hun; exact hun
   refine wpOp_mono (fun a' w' h3 => ⟨h3.2.1, ih (listed.setIfInBounds j true) a' w' hfree' (ready_mono hr (Ne.symm hji)) h3.1 (h3.2.1 hjq) ?_⟩) h2
   rw [Array.setIfInBounds_comm _ _ hji]
   exact h3.2.2
theorem ao9 {i : Nat} {oi : Oper} {v : Value} {fuel : Nat} {listed : Array Bool} {a : Act} {w : World} (hi : ops[i]? = some oi)
  (hs : Region.noSelect ops = true) (hf : Region.free md ops listed i = true) (hr : (Region.ready md ops listed).contains i = true)
  (hQ : ∀ c a w, Q (.panic c) (a.put oi.dst v) w → Q (.panic c) a w) (hlast : ∀ oq, ops[q]? = some oq → ∃ e ∈ oq.after, Region.binds md e = true ∧ e.on = i) (hy : YieldsIf P ops S oi v a) (hS : S w)
  (h : af2 P md ops Q S q fuel (listed.setIfInBounds i true) (a.put oi.dst v) w) : af2 P md ops Q S q (fuel + 1) listed a w :=
 ant hi (Region.noSelect_spec hs) hQ hlast fuel listed a w (Region.free_spec hi hf) (by simpa using hr) hy hS h
def anh (P : Program) (ops : Array Oper) (Q : Exit → Act → World → Prop) (S : World → Prop) : List Oper → Act → World → Prop
 | [], a, w => Q .normal a w
 | o :: rest, a, w => Region.wanted o (yielded ops a.tmps) = true ∧ o.wp P a w (fun a' w' => (rest ≠ [] → S w') ∧ anh P ops Q S rest a' w') Q
theorem ags : ∀ (l : List Oper) (k : Nat) (listed : Array Bool) (a : Act) (w : World), k + l.length = q + 1 → (∀ j, l[j]? = ops[k + j]?) →
  Region.seqB md ops l.length k listed = true → anh P ops Q S l a w → af2 P md ops Q S q l.length listed a w
 | [], _, _, _, _, _, _, hB, h => ⟨by simpa [Region.seqB] using hB, h⟩
 | o :: l, k, listed, a, w, hq, hl, hB, h => by
  have h0 : ops[k]? = some o := by simpa using (hl 0).symm
  simp only [List.length_cons, Region.seqB, Bool.and_eq_true, decide_eq_true_eq] at hB
  refine ⟨fun h1 => (by rw [hB.1] at h1; cases h1), fun i hi => ?_⟩
  rw [hB.1] at hi
  obtain rfl : i = k := by simpa using hi
  unfold wpOp
  simp only [h0, h.1, if_true]
  refine .inl (Oper.wp_mono (fun a' w' h' => ⟨fun hne => h'.1 (fun e => hne (by subst e; simp at hq; omega)), ?_⟩) h.2)
  exact ags l (i + 1) _ a' w' (by rw [← hq, List.length_cons]; omega) (fun j => by have := hl (j + 1); simpa [Nat.add_assoc, Nat.add_comm 1 j] using this) hB.2 h'.2
def WLX (P : Program) (ops : Array Oper) (Q : Exit → Act → World → Prop) (C : Cx) (HK : List HA) (L : Sl) (H : List HA) (l : List Oper) : Prop := ∀ a w, Fr C L a → Hp C H w → anh P ops Q (Hp C HK) l a w
theorem arc {g : Nat} {tail : List Oper} {HK : List HA} (hsel : Region.noSelect ops = true) (hq : auf Q) (hg : tail.length = g) : ∀ (l : List Oper) (k : Nat) (listed : Array Bool) (L : Sl) (a : Act) (w : World), k + l.length + g = q + 1 → (∀ j, j < l.length → l[j]? = ops[k + j]?) → (∀ j, tail[j]? = ops[k + l.length + j]?) →
  (∀ i, i < k + l.length → ∀ oq, ops[q]? = some oq → ∃ e ∈ oq.after, Region.binds .any e = true ∧ e.on = i) →
  Region.lexHead .any ops g l.length k listed = true → Fr C L a → Hp C H w → Hp C HK w → TW P ops C HK (fun L' => WLX P ops Q C HK L' H tail) L l → af2 P .any ops Q (Hp C HK) q (l.length + g) listed a w
 | [], k, listed, L, a, w, hqq, _, ht, _, hB, hf, hp, _, h => by
  have := ags (md := .any) (Q := Q) (S := Hp C HK) (q := q) tail k listed a w (by rw [hg]; simpa using hqq) (fun j => by simpa using ht j) (by rw [hg]; simpa [Region.lexHead] using hB) (h a w hf hp)
  rw [hg] at this
  simpa using this
 | o :: l, k, listed, L, a, w, hqq, hl, ht, hlast, hB, hf, hp, hpk, ⟨v, d, hv, hd, hn, h⟩ => by
  have h0 : ops[k]? = some o := by simpa using (hl 0 (by simp)).symm
  simp only [List.length_cons, Region.lexHead, Bool.and_eq_true] at hB
  obtain ⟨⟨hrd, hfr⟩, hB'⟩ := hB
  have hy : YieldsIf P ops (Hp C HK) o v a := by
   rcases hv with ⟨hw, hv⟩ | ⟨hw, rfl⟩
   ·exact .inl ⟨j9 hf hw, fun w' hw' => hv a w' hf hw'⟩
   ·exact .inr ⟨j9 hf hw, rfl⟩
  have ih := arc hsel hq hg l (k + 1) (listed.setIfInBounds k true) ((d, v) :: L) (a.put (some d) v) w (by rw [← hqq, List.length_cons]; omega) (fun j hj => by have := hl (j + 1) (by simp; omega); simpa [Nat.add_assoc, Nat.add_comm 1 j] using this)
   (fun j => by have := ht j; rw [List.length_cons] at this; rw [this]; congr 1; omega) (fun i hi => hlast i (by rw [List.length_cons]; omega)) hB' (hf.put hn v) hp hpk h
  rw [show (o :: l).length + g = (l.length + g) + 1 by simp; omega]
  refine ao9 h0 hsel hfr hrd (fun c a w h => hq c a _ v w h) (hlast k (by simp)) hy hpk ?_
  rw [hd]; exact ih
def SP (Q : Exit → Act → World → Prop) : Exit → Act → World → Prop
 | .panic c, a, w => ∀ a' : Act, a'.defers = a.defers → a'.tmps.size = a.tmps.size → Q (.panic c) a' w
 | e, a, w => Q e a w
theorem SP.stays : auf (SP Q) := fun c a d v w h a' h1 h2 => h a' (by rw [h1]; cases d <;> rfl) (by rw [h2]; cases d <;> simp [Act.put])
theorem QX.strong {c : List PanicEntry} (h : QX Q (.panic c) C [] H) : QX (SP Q) (.panic c) C L H := fun a w hf hp a' h1 h2 => h a' w ⟨h1.trans hf.defers, by rw [h2]; exact hf.size, fun i v hg => by cases hg⟩ hp
def axd (l : List Oper) (n : Nat) : Bool := match l[l.length - 1]? with
 | some o => (List.range n).all fun i => o.after.any fun e => Region.binds .any e && Nat.beq e.on i
 | none => false
theorem ah8 {id : Nat} {l : List Oper} {L : Sl} (n : Nat) (idx : List Nat) (HK : List HA) (hi : u4 idx = true) (hk : sel H idx = HK) (hm : P.follows .mixedOrders = true) (hB : (Region.noSelect l.toArray && Nat.blt n l.length && axd l n && Region.lexHead .any l.toArray (l.length - n) n 0 (Array.replicate l.length false)) = true)
  (h : ∀ T : Sl → Prop, (∀ L', WLX P l.toArray (SP Q) C HK L' H (l.drop n) → T L') → TW P l.toArray C HK T L (l.take n)) : WC P (.region id l.toArray true) Q C L H := by
 intro a w hf hp
 simp only [Bool.and_eq_true] at hB
 obtain ⟨⟨⟨hsel, hn⟩, hla⟩, hlex⟩ := hB
 have hn' : n < l.length := Nat.blt_eq ▸ hn
 have htl : (l.take n).length = n := by simp; omega
 refine wp_mono (Q := SP Q) (wp_region_any hm ?_) (fun e a w hq => ?_)
 ·have := aki _ _ _ _ (arc (P := P) (ops := l.toArray) (Q := SP Q) (C := C) (H := H) (HK := HK) (g := l.length - n) (tail := l.drop n) (q := l.length - 1) hsel SP.stays (by simp) (l.take n) 0 (Array.replicate l.length false) L a w.drew
   (by rw [htl]; omega) (fun j hj => by rw [htl] at hj; simp [hj]) (fun j => by rw [htl]; simp [List.getElem?_drop])
   (fun i hi oq hoq => by
    unfold axd at hla
    have h1 : l[l.length - 1]? = some oq := by simpa using hoq
    rw [h1] at hla
    have h2 := List.all_eq_true.1 hla i (List.mem_range.2 (by rw [htl] at hi; omega))
    obtain ⟨e, he, hb⟩ := Array.any_eq_true'.1 h2
    simp only [Bool.and_eq_true] at hb
    exact ⟨e, he, hb.1, Nat.eq_of_beq_eq_true hb.2⟩)
   (by rw [htl]; exact hlex) hf hp.drew (hk ▸ hp.drew.pick idx hi) (h _ fun _ hh => hh))
  rw [htl, show n + (l.length - n) = l.length by omega] at this
  simpa using this
 ·cases e with
  | panic c => exact hq a rfl rfl
  | _ => exact hq
theorem Hp.right {A B : List HA} {w : World} (h : Hp C (A ++ B) w) : Hp C B w := by
 obtain ⟨F, h1, h2, h3⟩ := h.own
 obtain ⟨F1, F2, rfl, _, hB⟩ := h1.split
 exact ⟨h.os, h.tape, h.output, h.size, h.keep, h.ro, F2, hB, (List.nodup_append.1 h2).2.1, fun k hk => h3 k (List.mem_append.2 (.inr hk))⟩
theorem WLX.nil {HK : List HA} (h : QX Q .normal C L H) : WLX P ops (SP Q) C HK L H [] := fun a w hf hp => h a w hf hp
theorem WLX.op {HK H' : List HA} {L' : Sl} (idx : List Nat) (hi : u4 idx = true) (hk : sel H' idx = HK) (hop : OpK P o Q C L H L' H') (hw : p7 ops L o = some true) (h : WLX P ops Q C HK L' H' rest) : WLX P ops Q C HK L H (o :: rest) :=
 fun a w hf hp => ⟨j9 hf hw, hop _ (fun a' w' hf' hp' => ⟨fun _ => hk ▸ hp'.pick idx hi, h a' w' hf' hp'⟩) a w hf hp⟩
theorem WLX.opZ {HK H' : List HA} {L' : Sl} (hop : OpK P o Q C L H L' H') (hw : p7 ops L o = some true) (h : WLX P ops Q C HK L' H' []) : WLX P ops Q C HK L H [o] :=
 fun a w hf hp => ⟨j9 hf hw, hop _ (fun a' w' hf' hp' => ⟨fun e => absurd rfl e, h a' w' hf' hp'⟩) a w hf hp⟩
theorem WLX.pick {HK : List HA} {l : List Oper} (idx : List Nat) (hi : u4 idx = true) {H' : List HA} (he : sel H idx = H') (h : WLX P ops Q C HK L H' l) : WLX P ops Q C HK L H l := fun a w hf hp => h a w hf (he ▸ hp.pick idx hi)
theorem WLX.callS {HK : List HA} {f : FuncId} {vs : List Value} {d : Nat} {R : List (Nat × Obj)} {A Rest : List HA} {S : Out → Prop} (idx : List Nat) (hi : u4 idx = true) (hE : EN P C L H o f vs) (hd : o.dst = some d) (hc : d9 P f vs R A S) (hH : H = A ++ Rest) (hk : sel Rest idx = HK) (hR : ROk C Rest R)
  (hw : p7 ops L o = some true) (hn : Nat.blt d C.n = true)
  (h : ∀ r H', S (.ret r H') → WLX P ops Q C HK ((d, r) :: L) (H' ++ Rest) rest) (hpan : ∀ c H', S (.pan c H') → QX Q (.panic c) C L (H' ++ Rest)) : WLX P ops Q C HK L H (o :: rest) := by
 intro a w hf hp
 subst hH
 refine ⟨j9 hf hw, ?_⟩
 unfold Oper.wp
 rw [hE a w hf hp]
 simp only [Oper.upon]
 refine (arw hc hp hR).mono ?_
 rintro en w' ⟨H', hS, hh⟩
 rcases hS with ⟨r, rfl, hS⟩ | ⟨c, rfl, hS⟩
 ·rw [hd]
  exact ⟨fun _ => hk ▸ hh.right.pick idx hi, h r H' hS _ _ (hf.put hn r) hh⟩
 ·exact hpan c H' hS _ _ hf hh
end Go.Proofs.YtifajndacnfcbaaDoor
namespace Go.Proofs.YtifajndacnfcbaaDoor
open Go Go.RowKit
variable {P : Program} {ops : Array Oper} {Q : Exit → Act → World → Prop} {C : Cx} {L : Sl} {H : List HA} {rest : List Oper} {o : Oper} {B : List (Nat × Obj)} {v u : Value} {vs : List Value} {d : Nat}
def Rd (C : Cx) (H : List HA) (R : List (Nat × Obj)) : Prop := ∀ p ∈ R, ∀ w, Hp C H w → w.heap[p.1]? = some p.2
theorem Rd.nil : Rd C H [] := fun p hp => by cases hp
theorem Rd.old : Rd C H C.R := fun _ hp _ h => h.old hp
def CV (P : Program) (C : Cx) (L : Sl) (H : List HA) (o : Oper) (v : Value) : Prop := ∃ f vs R, EN P C L H o f vs ∧ d9 P f vs R [] (Ret v []) ∧ Rd C H R
theorem WL.cv (hC : CV P C L H o v) (hd : o.dst = some d) (hw : p7 ops L o = some true) (hn : Nat.blt d C.n = true)
  (h : WL P ops Q C ((d, v) :: L) H rest) : WL P ops Q C L H (o :: rest) := by
 intro a w hf hp
 obtain ⟨f, vs, R, hE, hc, hR⟩ := hC
 refine s7 (j9 hf hw) ?_
 unfold Oper.wp
 rw [hE a w hf hp]
 simp only [Oper.upon]
 refine (hc w [] rfl List.nodup_nil (fun k hk => by cases hk) (fun q hq => ⟨hR q hq w hp, by simp⟩)).mono ?_
 rintro en w' ⟨H', hS, hh⟩
 rcases hS with ⟨r, rfl, hS⟩ | ⟨c, rfl, hS⟩
 ·cases hS
  rw [hd]
  exact h _ _ (hf.put hn v) (hp.below hh.toBelow)
 ·cases hS
theorem FL.cv {T : World → m7 → Act → Prop} {L : FSl} {zl : List (Nat × Obj)} {k : Nat} (hC : ∀ β, CV P C (L β) H o v) (hd : o.dst = some d)
  (hz : aae zl k = none) (hw : ∀ β, p7 ops (L β) o = some true) (hn : Nat.blt d C.n = true)
  (h : FL P ops T C (fun β => (d, v) :: L β) H zl (k + 1) rest) : FL P ops T C L H zl k (o :: rest) := by
 intro A w0 hf hp
 refine ⟨fun _ => v, .inr ⟨hz, v, rfl, fun β => .inl ⟨j9 (hf β) (hw β), fun w hb => ?_⟩⟩, ?_⟩
 ·have hpw := hp.below hb
  obtain ⟨f, vs, R, hE, hc, hR⟩ := hC β
  rw [hE _ w (hf β) hpw]
  refine (hc w [] rfl List.nodup_nil (fun k hk => by cases hk) (fun q hq => ⟨hR q hq w hpw, by simp⟩)).mono ?_
  rintro en w' ⟨H', hS, hh⟩
  rcases hS with ⟨r, rfl, hS⟩ | ⟨c, rfl, hS⟩
  ·cases hS; exact ⟨rfl, hh.toBelow⟩
  ·cases hS
 ·rw [hd]; exact h _ w0 (fun β => (hf β).put hn v) hp
def axb (P : Program) (B : List (Nat × Obj)) (u : Value) (args : List Value) (v : Value) : Prop := ∃ f caps, u = .func (.func f) #[] (List.toArray caps) ∧ k9 P f = true ∧ d9 P f (args ++ caps) B [] (Ret v [])
def aul (P : Program) (u : Value) (name : String) (args : List Value) (v : Value) : Prop := ∃ f T r, u = .iface T r ∧ agm P T name = some f ∧ aec P T = true ∧ k9 P f = true ∧ d9 P f (r :: args) [] [] (Ret v [])
section cv
variable {x : Operand} {xs : List Operand} {ats : Array TypeId} {ty : TypeId} {p : String} {e : Array Edge} {g : Option (Nat × Bool)} {name : String} {do_ : Option Tmp}
theorem CV.meth (hx : ev L x = some u) (hM : aul P u name vs v) (hxs : evs L xs = some vs) : CV P C L H ⟨do_, .call ⟨.invoke x name, xs.toArray, ats⟩, ty, p, e, g⟩ v := by
 obtain ⟨f, T, r, rfl, hm, hp, he, hc⟩ := hM
 exact ⟨f, r :: vs, [], EN.invoke hx hm hp he hxs, hc, Rd.nil⟩
end cv
theorem axb.func {f : FuncId} {caps : List Value} (he : k9 P f = true) (h : d9 P f (vs ++ caps) B [] (Ret v [])) : axb P B (.func (.func f) #[] caps.toArray) vs v := ⟨f, caps, rfl, he, h⟩
end Go.Proofs.YtifajndacnfcbaaDoor
namespace Go.Proofs.YtifajndacnfcbaaDoor
open Go Go.RowKit
variable {P : Program} {ops : Array Oper} {Q : Exit → Act → World → Prop} {C : Cx} {L : Sl} {H HK : List HA} {rest : List Oper} {o : Oper} {d : Nat}
def ax5 (P : Program) (C : Cx) (L : Sl) (H : List HA) (o : Oper) (Φ : Value → List HA → Prop) : Prop := ∀ a w, Fr C L a → Hp C H w → ∃ v w' H', (execOp a.eval o).run P w = .ok (.value v) w' ∧ Φ v H' ∧ Hp C H' w'
theorem WLX.valX {Φ : Value → List HA → Prop} (hv : ax5 P C L H o Φ) (idx : List Nat) (hi : u4 idx = true) (hk : ∀ v H', Φ v H' → sel H' idx = HK) (hd : o.dst = some d) (hw : p7 ops L o = some true) (hn : Nat.blt d C.n = true)
  (h : ∀ v H', Φ v H' → WLX P ops Q C HK ((d, v) :: L) H' rest) : WLX P ops Q C HK L H (o :: rest) := by
 intro a w hf hp
 obtain ⟨v, w', H', hr, hΦ, hp'⟩ := hv a w hf hp
 refine ⟨j9 hf hw, ?_⟩
 unfold Oper.wp
 rw [hr]
 simp only [Oper.upon, hd]
 exact ⟨fun _ => hk v H' hΦ ▸ hp'.pick idx hi, h v H' hΦ _ _ (hf.put hn v) hp'⟩
theorem WLX.make {Z : Obj} {f : Nat → Value} (hv : MV P C L H o Z f) (idx : List Nat) (hi : u4 idx = true) (hk : ∀ b, sel (.blk b Z :: H) idx = HK) (hd : o.dst = some d) (hw : p7 ops L o = some true) (hn : Nat.blt d C.n = true)
  (h : ∀ b, WLX P ops Q C HK ((d, f b) :: L) (.blk b Z :: H) rest) : WLX P ops Q C HK L H (o :: rest) :=
 WLX.valX (Φ := fun v H' => ∃ b, v = f b ∧ H' = .blk b Z :: H) (fun a w hf hp => ⟨_, _, _, hv a w hf hp, ⟨_, rfl, rfl⟩, hp.alloc Z⟩) idx hi (fun _ _ ⟨b, _, e⟩ => e ▸ hk b) hd hw hn (fun _ _ ⟨b, e1, e2⟩ => by subst e1; subst e2; exact h b)
section ap
variable {α : Type} {f : α → List Value} {sz : Nat} {v : Value} {l ms : List α} {s x : Operand} {t e' T ty : TypeId} {p : String} {e : Array Edge} {cs zs : List Value} {bytes : Nat}
theorem afy (i j : Nat) {b : Nat} {m c : Nat} (hs : ev L s = some v) (hx : ev L x = some (.slice (some ⟨b, 0, none⟩) m c)) (hi : H[i]? = some (.row v e' sz l.length (l.flatMap f))) (hj : H[j]? = some (.blk b (.cells cs.toArray T (0, 0)))) (hc : cs = ms.flatMap f) (hm : ms.length = m)
  (hf' : ∀ x, (f x).length = sz) (h0 : 0 < sz) (h1 : cs.all (·.oneCell') = true) (ht : slB P t e' sz = true) (hinf : afi P e' = some (zs, sz, bytes)) (hzs : zs.length = sz) (hb : ((l.length + m) + (l.length + m) / 4 + 192) * bytes ≤ 281474976710656 ∧ l.length + m ≤ 9223372036854775807) :
  ax5 P C L H ⟨some d, .call ⟨.builtin .append, #[s, x], #[t, t]⟩, ty, p, e, none⟩ (fun v' H' => H' = H.set i (.row v' e' sz (l ++ ms).length ((l ++ ms).flatMap f))) := by
 intro a w hf hp
 obtain ⟨inf, z, q1, q2, q3, q4, q5⟩ := akg hinf
 have hblk := hp.blk hj
 subst hm
 have hlen : cs.length = ms.length * sz := by rw [hc, aag hf']
 have hnews : ∀ q u, cs[q]? = some u → w.cell? ((⟨b, 0, none⟩ : Addr).add q) = some u := fun q u hq => by
  rw [Addr.add_mid, Nat.zero_add]; simp [World.cell?, hblk, hq]
 have hone : ∀ u ∈ cs, u.oneCell' = true := fun u hu => (List.all_eq_true.1 h1) u hu
 obtain ⟨v', w', hr, r1, r2, _⟩ := run_append_own_wide (P := P) w 0 t ty e' inf z sz bytes (w7 ht).1 q1 q2 q4 q5 (by rw [q3]; simpa using hzs) h0 v l.length (l.flatMap f) (hp.row hi) ⟨b, 0, none⟩ ms.length c cs hlen hnews hone (by simp only [maxLen]; omega) hb.1 (Nat.zero_le _)
 refine ⟨v', w', _, ?_, rfl, hp.swap hi r2.os r2.tape r2.output r2.size (fun F hF k hk hkF => r2.block k hk (fun e => hkF (by rw [hF.1, ← e]; simp))) (fun F hF _ => ⟨v'.ownBlock.toList, ⟨rfl, by rw [List.length_append, List.flatMap_append, ← hc]; exact r1⟩, by cases v'.ownBlock <;> simp, fun k hk => ?_⟩)⟩
 ·unfold execOp
  simp only [resolve, invoke, builtin, Sem.run_bind, Sem.run_pure, Result.andThen_ok, List.map_toArray, List.map_cons, List.map_nil, hf.ev hs, hf.ev hx, hr]
 ·have hk' : v'.ownBlock = some k := by simpa using hk
  refine ⟨?_, (r1.lt k hk').2⟩
  rcases amc (w7 ht).1 q1 q2 q4 q5 (hp.row hi) hlen hnews hone hb.2 hb.1 hr hk' with h4 | h4
  ·exact .inl (by rw [hF.1, h4]; simp)
  ·exact .inr h4
end ap
theorem OpK.storeSl {x y : Operand} {t ty T T' : TypeId} {p : String} {e : Array Edge} {g : Option (Nat × Bool)} {b off sz n : Nat} {v : Value} {xs cs cs' : List Value} (i k : Nat)
  (hx : ev L x = some (.pointer (some ⟨b, off, none⟩))) (hy : ev L y = some v) (hi : H[i]? = some (.blk b (.cells cs.toArray T (0, 0)))) (hk : H[k]? = some (.row v T' sz n xs)) (hs : o8 P t 1 = true)
  (hfit : off + 1 ≤ cs.length) (he : cs.take off ++ [v] ++ cs.drop (off + 1) = cs') : OpK P ⟨none, .store t x y, ty, p, e, g⟩ Q C L H L (H.set i (.blk b (.cells cs'.toArray T (0, 0)))) := by
 intro K hK a w hf hp
 rcases (hp.row hk).2 with ⟨rfl, _⟩ | ⟨_, _, _, rfl, _⟩
 ·exact OpK.store (vs := [_]) i hx hy hi rfl hs hfit rfl he K hK a w hf hp
 ·exact OpK.store (vs := [_]) i hx hy hi rfl hs hfit rfl he K hK a w hf hp
theorem o6 : ([] : List Value).all (·.oneCell') = true := rfl
theorem d4 {u : Value} {vs : List Value} (h : u.oneCell' = true) (h' : vs.all (·.oneCell') = true) : (u :: vs).all (·.oneCell') = true := by rw [List.all_cons, h, h']; rfl
theorem aaf {u : Value} (h : u.oneCell' = true) : u.cells = [u].toArray := by cases u <;> first | rfl | (cases h; done)
def amv (place : Nat → Option (Nat × Nat)) (cells : Array Value) : List (Nat × List Value) → Option (Array Value)
 | [] => some cells
 | (i, v) :: rest =>
  match place i with
  | none => none
  | some (off, size) => if v.length ≠ size || off + v.length > cells.size then none else amv place (v.toArray.zipIdx.foldl (fun cs (c, j) => cs.setIfInBounds (off + j) c) cells) rest
def akc : List (Nat × Value) → List (Nat × List Value) → Prop
 | [], [] => True
 | p :: r, q :: s => p.1 = q.1 ∧ p.2.cells = q.2.toArray ∧ akc r s
 | _, _ => False
theorem ahb {place : Nat → Option (Nat × Nat)} : ∀ {ps : List (Nat × Value)} {qs : List (Nat × List Value)} (cells : Array Value), akc ps qs → Instr.fill place cells ps = amv place cells qs
 | [], [], _, _ => rfl
 | (i, v) :: ps, (j, l) :: qs, cells, h => by
  obtain ⟨h1, h2, h3⟩ := h
  simp only at h1 h2
  subst h1
  unfold Instr.fill amv
  cases hp : place i with
  | none => rfl
  | some q =>
   obtain ⟨off, size⟩ := q
   simp only [h2, List.size_toArray, ahb _ h3]
 | [], _ :: _, _, h => h.elim
 | _ :: _, [], _, h => h.elim
def avw (P : Program) (t : TypeId) (parts : List (Nat × List Value)) : Option (Array Value) :=
 match P.info? t, P.underlying t with
 | some it, some (.array _ e) =>
  match it.zero, P.info? e with
  | some z, some ie => amv (fun i => some (i * ie.size, ie.size)) z.cells parts
  | _, _ => none
 | some it, some (.struct fields) =>
  match it.zero, fields.toList.mapM (fun f => (P.info? f.type).map fun i => (f.offset, i.size)) with
  | some z, some places => amv (places.toArray[·]?) z.cells parts
  | _, _ => none
 | _, _ => none
theorem OV.buildC {t ty : TypeId} {d : Option Tmp} {p : String} {e : Array Edge} {g : Option (Nat × Bool)} {ps : List (Nat × Operand)} {vs : List (Nat × Value)} {qs : List (Nat × List Value)} {cs : List Value} (hx : evp L ps = some vs) (hc : akc vs qs) (hb : avw P t qs = some cs.toArray) : OV P C L H ⟨d, .build t ps.toArray, ty, p, e, g⟩ (.agg cs.toArray) := by
 refine OV.build hx ?_
 have h1 : ∀ place cells, Instr.fill place cells vs = amv place cells qs := fun _ cells => ahb cells hc
 rw [← hb]
 simp only [Program.built, avw, h1]
 rfl
theorem WL.rowOne {r : List Oper} {v : Value} {T sz n : Nat} {xs : List Value} (i : Nat) (hi : H[i]? = some (.row v T sz n xs)) (h : v.oneCell' = true → WL P ops Q C L H r) : WL P ops Q C L H r := fun a w hf hp => by
 have h1 : v.oneCell' = true := by
  rcases (hp.row hi).2 with ⟨rfl, _⟩ | ⟨_, _, _, rfl, _⟩ <;> rfl
 exact h h1 a w hf hp
theorem LIn.one {v : Value} {n : Nat} {xs : List Value} (h : LIn C v n xs) : v.oneCell' = true := by
 obtain ⟨R, h1, _⟩ := h
 rcases h1 with ⟨_, _, ⟨_, _, rfl⟩, _⟩ | ⟨_, _, _, _, _, _, rfl, _⟩ <;> rfl
theorem amp : ∀ (l : List Value) (a : Array Value) (k i : Nat), ((l.zipIdx k).foldl (fun (a : Array Value) (p : Value × Nat) => a.setIfInBounds (0 + p.2) p.1) a)[i]? = if k ≤ i ∧ i < k + l.length ∧ i < a.size then l[i - k]? else a[i]?
 | [], a, k, i => by
  have : ¬ (k ≤ i ∧ i < k + ([] : List Value).length ∧ i < a.size) := by simp; omega
  rw [if_neg this]; rfl
 | x :: l, a, k, i => by
  rw [List.zipIdx_cons, List.foldl_cons, amp l _ (k + 1) i]
  simp only [Array.size_setIfInBounds, Nat.zero_add, List.length_cons]
  by_cases h1 : k + 1 ≤ i ∧ i < k + 1 + l.length ∧ i < a.size
  ·rw [if_pos h1, if_pos (by omega), show i - k = (i - (k + 1)) + 1 by omega, List.getElem?_cons_succ]
  ·rw [if_neg h1]
   by_cases h2 : k ≤ i ∧ i < k + (l.length + 1) ∧ i < a.size
   ·have : i = k := by omega
    subst this
    rw [if_pos h2]; simp [h2.2.2]
   ·rw [if_neg h2]
    by_cases hk : k = i
    ·subst hk
     have : ¬ k < a.size := by omega
     simp [this]
    ·rw [Array.getElem?_setIfInBounds_ne hk]
theorem MV.buildSlice1 {t e' ty : TypeId} {d : Option Tmp} {p : String} {e : Array Edge} {g : Option (Nat × Bool)} {x : Operand} {v : Value} {cs zs : List Value} {sz : Nat} (hx : ev L x = some v) (hv : v.cells = cs.toArray) (hs : slB P t e' sz = true) (hz : ab0 P e' = some zs) (hl : cs.length = sz) (hl2 : zs.length = sz) (h0 : (0 < sz ∧ sz ≤ 65536) := by decide) :
  MV P C L H ⟨d, .buildSlice t 1 #[(0, x)], ty, p, e, g⟩ (.cells cs.toArray e' (0, 0)) (fun b => .slice (some ⟨b, 0, none⟩) 1 1) := by
 refine MV.buildSlice (ps := [(0, x)]) (vs := [(0, v)]) (e' := e') (sz := sz) (by simp only [evp, hx]) hs ?_
 have hsz := (w7 hs).2
 unfold o8 at hsz
 unfold ab0 at hz
 unfold Program.builtSlice
 cases hi : P.info? e' with
 | none => rw [hi] at hsz; simp at hsz
 | some ie =>
  rw [hi] at hsz hz
  have hsz : ie.size = sz := by simpa using hsz
  cases hq : ie.zero with
  | none => rw [Option.bind_some, hq] at hz; cases hz
  | some z =>
   rw [Option.bind_some, hq] at hz
   have hz : z.cells.toList = zs := by simpa using hz
   have hzl : z.cells.size = sz := by rw [← hl2, ← hz]; simp
   simp only [hq, Nat.one_mul, hsz]
   rw [if_neg (by omega)]
   unfold Instr.fill
   have hvs : v.cells.size = sz := by rw [hv]; simpa using hl
   simp only [hvs, Nat.zero_mul, Nat.zero_add, Array.size_map, Array.size_range]
   rw [if_neg (by simp)]
   unfold Instr.fill
   congr 1
   rw [hv]
   apply Array.ext_getElem?
   intro i
   have hfa : (List.toArray cs).zipIdx.foldl (fun (a : Array Value) (x : Value × Nat) => a.setIfInBounds (0 + x.2) x.1) ((Array.range sz).map (fun x => z.cells[x % z.cells.size]!)) = (cs.zipIdx 0).foldl (fun (a : Array Value) (x : Value × Nat) => a.setIfInBounds (0 + x.2) x.1) ((Array.range sz).map (fun x => z.cells[x % z.cells.size]!)) := by
    simp
   simp only [Nat.zero_add] at hfa ⊢
   have h2 := amp cs ((Array.range sz).map (fun x => z.cells[x % z.cells.size]!)) 0 i
   simp only [Nat.zero_add, Nat.zero_le, true_and, Nat.sub_zero, Array.size_map, Array.size_range] at h2
   refine (congrArg (·[i]?) hfa).trans (h2.trans ?_)
   by_cases hi2 : i < cs.length
   ·rw [if_pos ⟨hi2, by omega⟩]; simp
   ·rw [if_neg (by omega)]
    simp [show ¬ i < sz by omega, hi2]
theorem Hp.newPool {w : World} (h : Hp C H w) : Hp C (pool [] :: H) w := by
 obtain ⟨F, h1, h2⟩ := h.own
 exact ⟨h.os, h.tape, h.output, h.size, h.keep, h.ro, F, ⟨[], F, rfl, ⟨rfl, fun p hp => by cases hp⟩, h1⟩, h2⟩
end Go.Proofs.YtifajndacnfcbaaDoor
namespace Go.Proofs.YtifajndacnfcbaaDoor
open Go Go.RowKit
section
variable {P : Program} {ops : Array Oper} {Q : Exit → Act → World → Prop} {C : Cx} {L : Sl} {H : List HA} {rest : List Oper} {w : World}
theorem OpK.storeSuf {x y : Operand} {t ty T T' : TypeId} {p : String} {e : Array Edge} {g : Option (Nat × Bool)} {b off sz n m : Nat} {v : Value} {xs cs cs' : List Value} (i k : Nat)
  (hx : ev L x = some (.pointer (some ⟨b, off, none⟩))) (hy : ev L y = some (l5 v sz m)) (hi : H[i]? = some (.blk b (.cells cs.toArray T (0, 0)))) (hk : H[k]? = some (.row v T' sz n xs)) (hm : m ≤ n) (hs : o8 P t 1 = true)
  (hfit : off + 1 ≤ cs.length) (he : cs.take off ++ [l5 v sz m] ++ cs.drop (off + 1) = cs') : OpK P ⟨none, .store t x y, ty, p, e, g⟩ Q C L H L (H.set i (.blk b (.cells cs'.toArray T (0, 0)))) := by
 intro K hK a w hf hp
 obtain ⟨a0, c, h1, _⟩ := apr (hp.row hk) hm
 refine OpK.store (vs := [l5 v sz m]) i hx hy hi ?_ hs hfit ?_ he K hK a w hf hp
 ·rw [h1]; rfl
 ·rw [h1]; rfl
theorem WL.storeSuf {x y : Operand} {t ty T T' : TypeId} {p : String} {e : Array Edge} {g : Option (Nat × Bool)} {b off sz n m : Nat} {v : Value} {xs cs cs' : List Value} (i k : Nat)
  (hx : ev L x = some (.pointer (some ⟨b, off, none⟩))) (hy : ev L y = some (l5 v sz m)) (hi : H[i]? = some (.blk b (.cells cs.toArray T (0, 0)))) (hk : H[k]? = some (.row v T' sz n xs)) (hm : m ≤ n) (hs : o8 P t 1 = true)
  (hfit : off + 1 ≤ cs.length) (he : cs.take off ++ [l5 v sz m] ++ cs.drop (off + 1) = cs') (hw : p7 ops L ⟨none, .store t x y, ty, p, e, g⟩ = some true)
  (h : WL P ops Q C L (H.set i (.blk b (.cells cs'.toArray T (0, 0)))) rest) : WL P ops Q C L H (⟨none, .store t x y, ty, p, e, g⟩ :: rest) := WL.op (OpK.storeSuf i k hx hy hi hk hm hs hfit he) hw h
def ad8 (v : Value) (T sz n : Nat) (xs : List Value) (b : Nat) (cs : List Value) : Prop := ∃ cap, v = .slice (some ⟨b, 0, none⟩) n cap ∧ n ≤ cap ∧ cs.length = cap * sz ∧ cs.take (n * sz) = xs ∧ n * sz ≤ cs.length ∧ 0 < T + 1
theorem ad8.inSl {v : Value} {T sz n : Nat} {xs : List Value} {b : Nat} {cs : List Value} (h : ad8 v T sz n xs b cs) (hl : xs.length = n * sz) : aqu v [(b, .cells cs.toArray T (0, 0))] n xs := by
 obtain ⟨cap, rfl, _, _, ht, _⟩ := h
 exact .inr ⟨b, 0, cap, cs, T, (0, 0), rfl, rfl, by rw [List.drop_zero, hl]; exact ht⟩
theorem Own.absorbRow {v : Value} {T sz n : Nat} {xs : List Value} {B : List (Nat × Obj)} {A : List HA} {F : List Nat} (hn : 0 < n) (h : Own w (.row v T sz n xs :: pool B :: A) F) :
  ∃ b cs, ad8 v T sz n xs b cs ∧ Own w (pool ((b, .cells cs.toArray T (0, 0)) :: B) :: A) F := by
 obtain ⟨F1, F2, rfl, ⟨rfl, hl, hr⟩, h2⟩ := h
 rcases hr with ⟨rfl, h0⟩ | ⟨b, cap, cur, rfl, _, hb, hn2, hcm, hcs, htk⟩
 ·omega
 ·have h1 : n * sz ≤ cap * sz := Nat.mul_le_mul_right _ hn2
  refine ⟨b, cur.toList, ⟨cap, rfl, hn2, by simpa using hcs, htk, by rw [Array.length_toList, hcs]; exact h1, by omega⟩, ?_⟩
  have hblk : Own w (.blk b (.cells cur.toList.toArray T (0, 0)) :: pool B :: A) ([b] ++ F2) := ⟨[b], F2, rfl, ⟨rfl, by rw [Array.toArray_toList]; exact hb⟩, h2⟩
  exact hblk.absorb
theorem Hp.absorbRow {v : Value} {T sz n : Nat} {xs : List Value} {B : List (Nat × Obj)} (hn : 0 < n) (h : Hp C (.row v T sz n xs :: pool B :: H) w) : ∃ b cs, ad8 v T sz n xs b cs ∧ Hp C (pool ((b, .cells cs.toArray T (0, 0)) :: B) :: H) w := by
 obtain ⟨F, h1, h2⟩ := h.own
 obtain ⟨b, cs, h3, h4⟩ := h1.absorbRow hn
 exact ⟨b, cs, h3, h.os, h.tape, h.output, h.size, h.keep, h.ro, F, h4, h2⟩
theorem QX.absorbRow {e : Exit} {v : Value} {T sz n : Nat} {xs : List Value} {B : List (Nat × Obj)} (hn : 0 < n) (h : ∀ b cs, ad8 v T sz n xs b cs → QX Q e C L (pool ((b, .cells cs.toArray T (0, 0)) :: B) :: H)) : QX Q e C L (.row v T sz n xs :: pool B :: H) := fun a w hf hp => by
 obtain ⟨b, cs, h1, h2⟩ := hp.absorbRow hn
 exact h b cs h1 a w hf h2
end
end Go.Proofs.YtifajndacnfcbaaDoor
namespace Go.Proofs
open Go.Shelf
def Tryd.lays169_ren : Go.Shelf.Ren := ⟨fun | 169 => 32 | n => n, fun | 70 => 85 | 9 => 9 | 0 => 0 | 72 => 88 | 37 => 86 | 127 => 113 | 3 => 3 | 5 => 5 | n => n, fun | n => n⟩
theorem Tryd.lays169 : Go.Proofs.Lays.n169 Tryd.prog Tryd.lays169_ren := {
 mixed := by kernel_rfl
 f169 := Tryd.func32.trans (congrArg some (by kernel_rfl))
 t0 := Tryd.underlying0
 a0 := Tryd.isAgg0
 z0 := Tryd.sizeOf0
 v0 := Tryd.zeroValue0
 t3 := Tryd.underlying3
 a3 := Tryd.isAgg3
 z3 := Tryd.sizeOf3
 v3 := Tryd.zeroValue3
 t9 := Tryd.underlying9
 a9 := Tryd.isAgg9
 z9 := Tryd.sizeOf9
 v9 := Tryd.zeroValue9
 t37 := Tryd.underlying86
 a37 := Tryd.isAgg86
 z37 := Tryd.sizeOf86
 v37 := Tryd.zeroValue86
 t70 := Tryd.underlying85
 a70 := Tryd.isAgg85
 z70 := Tryd.sizeOf85
 v70 := Tryd.zeroValue85
 t72 := Tryd.underlying88
 a72 := Tryd.isAgg88
 z72 := Tryd.sizeOf88
 v72 := Tryd.zeroValue88
 t127 := Tryd.underlying113
 a127 := Tryd.isAgg113
 z127 := Tryd.sizeOf113
 v127 := Tryd.zeroValue113 }
theorem Tryd.Builder_Extra_169 : Builder.Extra Tryd.prog Tryd.lays169_ren := {
 sizeBuilder := by kernel_rfl
 liesBuilder := by kernel_rfl
 t5 := Tryd.underlying5
 a5 := Tryd.isAgg5
 z5 := Tryd.sizeOf5
 v5 := Tryd.zeroValue5
 infoByte := by kernel_rfl
 cellsByte := by kernel_rfl
 sizeByte := by kernel_rfl
 neB5 := by decide }
def Tryd.lays137_ren : Go.Shelf.Ren := ⟨fun | 137 => 63 | 217 => 74 | 266 => 78 | n => n, fun | 9 => 9 | 5 => 5 | 3 => 3 | n => n, fun | n => n⟩
theorem Tryd.lays137 : Go.Proofs.Lays.n137 Tryd.prog Tryd.lays137_ren := {
 mixed := by kernel_rfl
 f137 := Tryd.func63.trans (congrArg some (by kernel_rfl))
 f217 := Tryd.func74.trans (congrArg some (by kernel_rfl))
 f266 := Tryd.func78.trans (congrArg some (by kernel_rfl))
 t3 := Tryd.underlying3
 a3 := Tryd.isAgg3
 z3 := Tryd.sizeOf3
 v3 := Tryd.zeroValue3
 t5 := Tryd.underlying5
 a5 := Tryd.isAgg5
 z5 := Tryd.sizeOf5
 v5 := Tryd.zeroValue5
 t9 := Tryd.underlying9
 a9 := Tryd.isAgg9
 z9 := Tryd.sizeOf9
 v9 := Tryd.zeroValue9 }
open Go.RowKit in
theorem Tryd.strings_IndexByte (s : ByteArray) (c : Int) (w : World) :
  Calls Tryd.prog 63 #[.string s, .int .u8 c] w fun e w' => e = .returned (.int .i64 (Lib.indexByte s.data.toList c.toNat.toUInt8)) ∧ w' = w := Any.strings_IndexByte Tryd.lays137 s c w
def Tryd.lays144_ren : Go.Shelf.Ren := ⟨fun | 144 => 71 | 143 => 77 | 219 => 82 | 217 => 74 | 225 => 83 | 224 => 84 | 267 => 85 | 266 => 78 | 314 => 86 | n => n, fun | 9 => 9 | 4 => 4 | 3 => 3 | 5 => 5 | 46 => 122 | 146 => 127 | 51 => 126 | n => n, fun | 1 => 1 | n => n⟩
theorem Tryd.lays144 : Go.Proofs.Lays.n144 Tryd.prog Tryd.lays144_ren := {
 mixed := by kernel_rfl
 f143 := Tryd.func77.trans (congrArg some (by kernel_rfl))
 f144 := Tryd.func71.trans (congrArg some (by kernel_rfl))
 f217 := Tryd.func74.trans (congrArg some (by kernel_rfl))
 f219 := Tryd.func82.trans (congrArg some (by kernel_rfl))
 f224 := Tryd.func84.trans (congrArg some (by kernel_rfl))
 f225 := Tryd.func83.trans (congrArg some (by kernel_rfl))
 f266 := Tryd.func78.trans (congrArg some (by kernel_rfl))
 f267 := Tryd.func85.trans (congrArg some (by kernel_rfl))
 f314 := Tryd.func86.trans (congrArg some (by kernel_rfl))
 t3 := Tryd.underlying3
 a3 := Tryd.isAgg3
 z3 := Tryd.sizeOf3
 v3 := Tryd.zeroValue3
 t4 := Tryd.underlying4
 a4 := Tryd.isAgg4
 z4 := Tryd.sizeOf4
 v4 := Tryd.zeroValue4
 t5 := Tryd.underlying5
 a5 := Tryd.isAgg5
 z5 := Tryd.sizeOf5
 v5 := Tryd.zeroValue5
 t9 := Tryd.underlying9
 a9 := Tryd.isAgg9
 z9 := Tryd.sizeOf9
 v9 := Tryd.zeroValue9
 t46 := Tryd.underlying122
 a46 := Tryd.isAgg122
 z46 := Tryd.sizeOf122
 v46 := Tryd.zeroValue122
 t51 := Tryd.underlying126
 a51 := Tryd.isAgg126
 z51 := Tryd.sizeOf126
 v51 := Tryd.zeroValue126
 t146 := Tryd.underlying127
 a146 := Tryd.isAgg127
 z146 := Tryd.sizeOf127
 v146 := Tryd.zeroValue127
 g1 := by kernel_rfl }
open Go.RowKit Go.Lib in
theorem Tryd.strings_Contains_one (s : ByteArray) (c : UInt8) (w : World) :
  Calls Tryd.prog 71 #[.string s, .string ⟨#[c]⟩] w fun e w' => e = .returned (.bool (decide (0 ≤ Lib.indexByte s.data.toList c))) ∧ w' = w := Any.strings_Contains_one Tryd.lays144 s c w
def Tryd.lays99_ren : Go.Shelf.Ren := ⟨fun | 99 => 64 | 206 => 75 | n => n, fun | 9 => 9 | 4 => 4 | 3 => 3 | n => n, fun | n => n⟩
theorem Tryd.lays99 : Go.Proofs.Lays.n99 Tryd.prog Tryd.lays99_ren := {
 mixed := by kernel_rfl
 f99 := Tryd.func64.trans (congrArg some (by kernel_rfl))
 f206 := Tryd.func75.trans (congrArg some (by kernel_rfl))
 t3 := Tryd.underlying3
 a3 := Tryd.isAgg3
 z3 := Tryd.sizeOf3
 v3 := Tryd.zeroValue3
 t4 := Tryd.underlying4
 a4 := Tryd.isAgg4
 z4 := Tryd.sizeOf4
 v4 := Tryd.zeroValue4
 t9 := Tryd.underlying9
 a9 := Tryd.isAgg9
 z9 := Tryd.sizeOf9
 v9 := Tryd.zeroValue9 }
open Go.RowKit Go.Lib in
theorem Tryd.strings_HasPrefix (s p : ByteArray) (w : World) :
  Calls Tryd.prog 64 #[.string s, .string p] w fun e w' => e = .returned (.bool (Lib.hasPrefix s.data.toList p.data.toList)) ∧ w' = w := Any.strings_HasPrefix Tryd.lays99 s p w
end Go.Proofs
namespace Go.Proofs.YtifajndacnfcbaaDoor
open Go Go.RowKit
theorem al4 {c : Int} (h : 0 ≤ c ∧ c < 256) : [Value.int .u8 c] = [c.toNat.toUInt8].flatMap k8 := by
 rw [List.flatMap_singleton]
 show _ = [Value.int .u8 _]
 rw [aus h]
abbrev Tok := Int × Int × List UInt8
def e6 (x : Tok) : List Value := [.int .i64 x.1, .int .i64 x.2.1, st x.2.2]
theorem p9 (x : Tok) : (e6 x).length = 3 := rfl
def j5 (c : Int) : Bool := (decide (c = 95) || (decide (97 ≤ c) && decide (c ≤ 122))) || (decide (65 ≤ c) && decide (c ≤ 90))
def m8 (c : Int) : Bool := decide (48 ≤ c) && decide (c ≤ 57)
def m9 (c : Int) : Bool := decide (32 ≤ c) && decide (c ≤ 126)
def bt (t : List UInt8) (i : Int) : Int := ((t.getD i.toNat 0).toNat : Int)
theorem ak2 (t : List UInt8) (i : Int) : 0 ≤ bt t i ∧ bt t i < 256 := by
 have := (t.getD i.toNat 0).toNat_lt
 unfold bt; omega
def aah : List UInt8 := [61, 59, 40, 41, 123, 125, 44, 124, 38, 45, 46, 126, 42, 43, 63]
theorem adg (l : List UInt8) (c : Int) : d9 Tryd.prog 63 [st l, .int .u8 c] [] [] (Ret (.int .i64 (Lib.indexByte l c.toNat.toUInt8)) []) :=
 d9.ofPure fun w => (Tryd.strings_IndexByte ⟨l.toArray⟩ c w).mono fun _ _ ⟨h1, h2⟩ => by subst h2; exact ⟨h1, Below.refl _ _⟩
theorem aka (l p : List UInt8) : d9 Tryd.prog 64 [st l, st p] [] [] (Ret (.bool (Lib.hasPrefix l p)) []) :=
 d9.ofPure fun w => (Tryd.strings_HasPrefix ⟨l.toArray⟩ ⟨p.toArray⟩ w).mono fun _ _ ⟨h1, h2⟩ => by subst h2; exact ⟨h1, Below.refl _ _⟩
theorem acb (l : List UInt8) (c : UInt8) : (0 ≤ Lib.indexByte l c) ↔ l.contains c = true := by
 induction l with
 | nil => simp [Lib.indexByte]
 | cons b l ih =>
  have hge := Lib.indexByte_ge l c
  rw [List.contains_cons]
  simp only [Lib.indexByte]
  by_cases h : b = c
  ·subst h; simp
  ·have h1 : ¬ (b == c) = true := by simpa using h
   have h2 : (c == b) = false := by simpa using fun e : c = b => h e.symm
   rw [if_neg h1, h2, Bool.false_or, ← ih]
   by_cases h3 : Lib.indexByte l c = -1
   ·simp [h3]
   ·have h4 : ¬ (Lib.indexByte l c == -1) = true := by simpa using h3
    rw [if_neg h4]
    omega
def k6 (c : Int) : Int := if 48 ≤ c ∧ c ≤ 57 then c - 48 else if 97 ≤ c ∧ c ≤ 102 then c - 87 else -1
theorem ade {c : Int} : -1 ≤ k6 c ∧ k6 c ≤ 15 := by unfold k6; split <;> (try split) <;> omega
theorem axw {x : Int} (h : 0 ≤ x ∧ x < 256) : ∃ n : Nat, n < 256 ∧ x = (n : Int) := ⟨x.toNat, by omega, by omega⟩
theorem arj (c : Int) (h : 0 ≤ c ∧ c < 256) : Lib.indexByte [48, 49, 50, 51, 52, 53, 54, 55, 56, 57, 97, 98, 99, 100, 101, 102] c.toNat.toUInt8 = k6 c := by
 obtain ⟨n, hn, rfl⟩ := axw h
 simp only [Int.toNat_natCast]
 revert n; decide +kernel
def ail : Bool → List UInt8 → Nat
 | _, [] => 0
 | cm, c :: r =>
  let cm' := (cm || c == 35) && c != 10
  if cm' || c == 32 || c == 9 || c == 10 || c == 13 then 1 + ail cm' r else 0
theorem arq : ∀ (cm : Bool) (l : List UInt8), ail cm l ≤ l.length
 | _, [] => Nat.le_refl _
 | cm, c :: r => by
  unfold ail
  have := arq ((cm || c == 35) && c != 10) r
  simp only [List.length_cons]
  split <;> omega
def aaj (t : List UInt8) (a : Int) : Int := a + ail false (t.drop a.toNat)
def ab2 (t : List UInt8) (a : Int) : Int × Bool × Int :=
 if (t.length : Int) ≤ a + 1 then (0, false, a + 1)
 else
  let c := bt t (a + 1)
  if c = 110 then (10, true, a + 1)
  else if c = 114 then (13, true, a + 1)
  else if c = 116 then (9, true, a + 1)
  else if c = 34 ∨ c = 92 then (c, true, a + 1)
  else if c = 120 then
   if (t.length : Int) ≤ a + 2 then (0, false, a + 2)
   else if k6 (bt t (a + 2)) < 0 then (0, false, a + 2)
   else if (t.length : Int) ≤ a + 3 then (0, false, a + 3)
   else if k6 (bt t (a + 3)) < 0 then (0, false, a + 3)
   else (16 * k6 (bt t (a + 2)) + k6 (bt t (a + 3)), true, a + 3)
  else (0, false, a + 1)
def k7 (t : List UInt8) (fr : Int) : Nat → List UInt8 → Int → Except (Int × Int) (List UInt8 × Int)
 | 0, _, _ => .error (51, fr)
 | n + 1, out, k =>
  if k < t.length then
   if bt t k = 34 then .ok (out, k + 1)
   else if m9 (bt t k) = false then .error (50, k)
   else if bt t k ≠ 92 then k7 t fr n (out ++ [(bt t k).toNat.toUInt8]) (k + 1)
   else if (t.length : Int) ≤ (ab2 t k).2.2 then .error (51, fr)
   else if (ab2 t k).2.1 = false then .error (50, (ab2 t k).2.2)
   else k7 t fr n (out ++ [(ab2 t k).1.toNat.toUInt8]) ((ab2 t k).2.2 + 1)
  else .error (51, fr)
def y5 (t : List UInt8) (a : Int) : Except (Int × Int) (Tok × Int) := match k7 t a (t.length + 1) [] (a + 1) with
 | .ok (x, q) => .ok ((2, a, x), q)
 | .error e => .error e
def cut (t : List UInt8) (i j : Int) : List UInt8 := (t.drop i.toNat).take (j.toNat - i.toNat)
def n7 (t : List UInt8) (fr : Int) : Nat → Int → Except (Int × Int) (List UInt8 × Int)
 | 0, _ => .error (52, fr)
 | n + 1, k =>
  if k < t.length then
   if bt t k = 92 ∧ k + 1 < t.length then
    if m9 (bt t (k + 1)) = false then .error (50, k + 1) else n7 t fr n (k + 2)
   else if m9 (bt t k) = false then .error (50, k)
   else if bt t k = 47 then .ok (cut t (fr + 1) k, k + 1)
   else n7 t fr n (k + 1)
  else .error (52, fr)
def aa6 (t : List UInt8) (a : Int) : Except (Int × Int) (Tok × Int) := match n7 t a (t.length + 1) (a + 1) with
 | .ok (x, q) => .ok ((3, a, x), q)
 | .error e => .error e
def abq : List UInt8 → Nat
 | [] => 0
 | c :: r => if j5 (c.toNat : Int) || m8 (c.toNat : Int) then 1 + abq r else 0
theorem aoo : ∀ l : List UInt8, abq l ≤ l.length
 | [] => Nat.le_refl _
 | c :: r => by
  unfold abq
  have := aoo r
  simp only [List.length_cons]
  split <;> omega
def ab8 (t : List UInt8) (a : Int) : Except (Int × Int) (Tok × Int) :=
 if j5 (bt t a) = true then
  if (abq (t.drop a.toNat) : Int) > 32 then .error (1, a) else .ok ((1, a, cut t a (a + abq (t.drop a.toNat))), a + abq (t.drop a.toNat))
 else if bt t a = 34 then y5 t a
 else if bt t a = 47 then aa6 t a
 else if aah.contains (bt t a).toNat.toUInt8 = true then .ok ((4, a, cut t a (a + 1)), a + 1)
 else if a + 1 < t.length ∧ bt t a = 62 ∧ bt t (a + 1) = 62 then .ok ((4, a, [62, 62]), a + 2)
 else .error (50, a)
def anw (m : Except (Int × Int) (Tok × Int)) (_ : List UInt8) (l : List Tok) (fc fa : Int) (ft : List UInt8) (ok : Bool) (q : Int) (l' : List Tok) (c x : Int) (y : List UInt8) : Prop := match m with
 | .ok (k, q0) => ok = true ∧ q = q0 ∧ l' = l ++ [k] ∧ c = fc ∧ x = fa ∧ y = ft
 | .error (e, p) => ok = false ∧ l' = l ∧ c = e ∧ x = p ∧ y = []
def aa3 (t : List UInt8) : Nat → List Tok → Int → Except (Int × Int) (List Tok)
 | 0, _, _ => .error (0, 0)
 | n + 1, l, a => if a < t.length then match ab8 t a with
   | .ok (k, q) => aa3 t n (l ++ [k]) (aaj t q)
   | .error e => .error e
  else .ok (l ++ [((0, (t.length : Int), []) : Tok)])
def b9 (t : List UInt8) : List Tok × Int × Int := if 4096 < t.length then ([], 1, 0) else match aa3 t (t.length + 1) [] (aaj t 0) with
 | .ok l => (l, 0, 0)
 | .error (e, p) => ([], e, p)
end Go.Proofs.YtifajndacnfcbaaDoor
namespace Go.Proofs.YtifajndacnfcbaaDoor
open Go Go.RowKit
abbrev Bs := List UInt8
mutual
inductive Ex where
 | name (at0 : Int) (s : Bs)
 | text (at0 : Int) (s : Bs)
 | regex (at0 : Int) (s : Bs)
 | keyed (at0 : Int) (a : Ex)
 | unary (at0 : Int) (op : Bs) (a : Ex)
 | binary (at0 : Int) (op : Bs) (a b : Ex)
 | call (at0 : Int) (w : Bs) (l : ExL)
inductive ExL where
 | nil
 | cons (a : Ex) (r : ExL)
end
def ExL.snoc : ExL → Ex → ExL
 | .nil, b => .cons b .nil
 | .cons a r, b => .cons a (r.snoc b)
def ExL.len : ExL → Nat
 | .nil => 0
 | .cons _ r => r.len + 1
theorem ExL.len_snoc : ∀ (l : ExL) (b : Ex), (l.snoc b).len = l.len + 1
 | .nil, _ => rfl
 | .cons _ r, b => by show (r.snoc b).len + 1 = _; rw [ExL.len_snoc r b]; rfl
def d6 (w : Bs) : Int :=
 if w = [99, 111, 112, 121] ∨ w = [107, 101, 121] ∨ w = [105, 110, 115] ∨ w = [105, 100] ∨ w = [102, 111, 108, 100] then 1
 else if w = [100, 101, 108] ∨ w = [108, 101, 102, 116] ∨ w = [114, 105, 103, 104, 116] ∨ w = [100, 101, 102, 97, 117, 108, 116] then 2
 else if w = [110, 111, 114, 109] then 3 else if w = [108, 101, 116] then -1 else 0
def d8 (s : Bs) : Int := if s = [124] then 0 else if s = [38] ∨ s = [45] then 1 else if s = [62, 62] then 2 else if s = [126] then 3 else if s = [46] then 4 else -1
abbrev PSx := Nat × Int
def b4 (ts : List Tok) (k : Nat) : Tok := ts.getD k (0, 0, [])
def isM (ts : List Tok) (k : Nat) (m : Bs) : Bool := decide ((b4 ts k).1 = 4) && decide ((b4 ts k).2.2 = m)
def p6 (ts : List Tok) (q : PSx) (m : Bs) : Except (Int × Int) PSx := if isM ts q.1 m = true then .ok (q.1 + 1, q.2) else .error (60, (b4 ts q.1).2.1)
def n8 (ts : List Tok) (q : PSx) (m : Bs) : Except (Int × Int) PSx := if isM ts q.1 m = true then (if 64 ≤ q.2 then .error (23, (b4 ts q.1).2.1) else .ok (q.1 + 1, q.2 + 1)) else .error (60, (b4 ts q.1).2.1)
def s5 (ts : List Tok) (q : PSx) (m : Bs) : Except (Int × Int) PSx := if isM ts q.1 m = true then .ok (q.1 + 1, q.2 - 1) else .error (60, (b4 ts q.1).2.1)
abbrev noF : Int × Int := (-1, 0)
mutual
def pE (ts : List Tok) : Nat → Nat → PSx → Except (Int × Int) (Ex × PSx)
 | 0, _, _ => .error noF
 | f + 1, l, q => if 5 ≤ l then pP ts f q else match pE ts f (l + 1) q with
  | .error e => .error e
  | .ok (a, q1) => pL ts f l a q1
def pL (ts : List Tok) : Nat → Nat → Ex → PSx → Except (Int × Int) (Ex × PSx)
 | 0, _, _, _ => .error noF
 | f + 1, l, a, q => if (b4 ts q.1).1 = 4 ∧ d8 (b4 ts q.1).2.2 = l then match pE ts f (l + 1) (q.1 + 1, q.2) with
   | .error e => .error e
   | .ok (b, q2) => pL ts f l (.binary (b4 ts q.1).2.1 (b4 ts q.1).2.2 a b) q2
  else .ok (a, q)
def pP (ts : List Tok) : Nat → PSx → Except (Int × Int) (Ex × PSx)
 | 0, _ => .error noF
 | f + 1, q => match pA ts f q with
  | .error e => .error e
  | .ok (a, q1) => pS ts f a q1
def pS (ts : List Tok) : Nat → Ex → PSx → Except (Int × Int) (Ex × PSx)
 | 0, _, _ => .error noF
 | f + 1, a, q => if isM ts q.1 [42] = true ∨ isM ts q.1 [43] = true ∨ isM ts q.1 [63] = true then pS ts f (.unary (b4 ts q.1).2.1 (b4 ts q.1).2.2 a) (q.1 + 1, q.2) else .ok (a, q)
def pA (ts : List Tok) : Nat → PSx → Except (Int × Int) (Ex × PSx)
 | 0, _ => .error noF
 | f + 1, q =>
  let t := b4 ts q.1
  if t.1 = 2 then .ok (.text t.2.1 t.2.2, (q.1 + 1, q.2))
  else if t.1 = 3 then .ok (.regex t.2.1 t.2.2, (q.1 + 1, q.2))
  else if t.1 = 1 ∧ 0 < d6 t.2.2 then pC ts f q
  else if t.1 = 1 ∧ d6 t.2.2 = 0 then .ok (.name t.2.1 t.2.2, (q.1 + 1, q.2))
  else if isM ts q.1 [123] = true then (match n8 ts q [123] with
   | .error e => .error e
   | .ok q1 => match pE ts f 0 q1 with
    | .error e => .error e
    | .ok (a, q2) => match s5 ts q2 [125] with
     | .error e => .error e
     | .ok q3 => .ok (.keyed t.2.1 a, q3))
  else if isM ts q.1 [40] = true then (match n8 ts q [40] with
   | .error e => .error e
   | .ok q1 => match pE ts f 0 q1 with
    | .error e => .error e
    | .ok (a, q2) => match s5 ts q2 [41] with
     | .error e => .error e
     | .ok q3 => .ok (a, q3))
  else .error (60, t.2.1)
def pC (ts : List Tok) : Nat → PSx → Except (Int × Int) (Ex × PSx)
 | 0, _ => .error noF
 | f + 1, q => match n8 ts (q.1 + 1, q.2) [40] with
  | .error e => .error e
  | .ok q1 => match pR ts f (d6 (b4 ts q.1).2.2).toNat .nil q1 with
   | .error e => .error e
   | .ok (l, q2) => match s5 ts q2 [41] with
    | .error e => .error e
    | .ok q3 => .ok (.call (b4 ts q.1).2.1 (b4 ts q.1).2.2 l, q3)
def pR (ts : List Tok) : Nat → Nat → ExL → PSx → Except (Int × Int) (ExL × PSx)
 | 0, _, _, _ => .error noF
 | f + 1, n, l, q => if n ≤ l.len then .ok (l, q)
  else match (if 0 < l.len then p6 ts q [44] else .ok q) with
   | .error e => .error e
   | .ok q1 => match pE ts f 0 q1 with
    | .error e => .error e
    | .ok (a, q2) => pR ts f n (l.snoc a) q2
end
abbrev t8 := Int × Bs × Ex
def pD (ts : List Tok) (F : Nat) : Nat → List t8 → PSx → Except (Int × Int) (List t8 × PSx)
 | 0, _, _ => .error noF
 | f + 1, l, q => if (b4 ts q.1).1 = 1 ∧ (b4 ts q.1).2.2 = [108, 101, 116] then
   if (b4 ts (q.1 + 1)).1 ≠ 1 ∨ d6 (b4 ts (q.1 + 1)).2.2 ≠ 0 then .error (60, (b4 ts (q.1 + 1)).2.1)
   else match p6 ts (q.1 + 2, q.2) [61] with
    | .error e => .error e
    | .ok q1 => match pE ts F 0 q1 with
     | .error e => .error e
     | .ok (b, q2) => match p6 ts q2 [59] with
      | .error e => .error e
      | .ok q3 => pD ts F f (l ++ [((b4 ts (q.1 + 1)).2.1, (b4 ts (q.1 + 1)).2.2, b)]) q3
  else .ok (l, q)
def ap5 (ts : List Tok) : Nat := 10 * ts.length + 20
def z8 (ts : List Tok) : Except (Int × Int) (List t8 × Ex) := match pD ts (ap5 ts) (ap5 ts) [] (0, 0) with
 | .error e => .error e
 | .ok (l, q) => match pE ts (ap5 ts) 0 q with
  | .error e => .error e
  | .ok (a, q1) => if (b4 ts q1.1).1 = 0 then .ok (l, a) else .error (60, (b4 ts q1.1).2.1)
end Go.Proofs.YtifajndacnfcbaaDoor
namespace Go.Proofs.YtifajndacnfcbaaDoor
open Go Go.RowKit
theorem ajj {ts : List Tok} {k : Nat} (h : (b4 ts k).1 ≠ 0) : k < ts.length := by
 rcases Nat.lt_or_ge k ts.length with h1 | h1
 ·exact h1
 ·exfalso; apply h
  unfold b4
  rw [List.getD_eq_getElem?_getD, List.getElem?_eq_none h1]; rfl
theorem aaa {ts : List Tok} {k : Nat} {m : Bs} (h : isM ts k m = true) : (b4 ts k).1 = 4 ∧ (b4 ts k).2.2 = m ∧ k < ts.length := by
 unfold isM at h
 rw [Bool.and_eq_true, decide_eq_true_eq, decide_eq_true_eq] at h
 exact ⟨h.1, h.2, ajj (by rw [h.1]; decide)⟩
theorem aco {ts : List Tok} {q q1 : PSx} {m : Bs} (h : p6 ts q m = .ok q1) : isM ts q.1 m = true ∧ q1 = (q.1 + 1, q.2) := by
 unfold p6 at h
 split at h
 ·rename_i h1; cases h; exact ⟨h1, rfl⟩
 ·cases h
theorem adu {ts : List Tok} {q q1 : PSx} {m : Bs} (h : s5 ts q m = .ok q1) : isM ts q.1 m = true ∧ q1 = (q.1 + 1, q.2 - 1) := by
 unfold s5 at h
 split at h
 ·rename_i h1; cases h; exact ⟨h1, rfl⟩
 ·cases h
theorem aar {ts : List Tok} {q q1 : PSx} {m : Bs} (h : n8 ts q m = .ok q1) : isM ts q.1 m = true ∧ q.2 < 64 ∧ q1 = (q.1 + 1, q.2 + 1) := by
 unfold n8 at h
 split at h
 ·rename_i h1
  split at h
  ·cases h
  ·cases h; exact ⟨h1, by omega, rfl⟩
 ·cases h
theorem avs {ts : List Tok} {q : PSx} {m : Bs} {e : Int × Int} (h : p6 ts q m = .error e) : e ≠ noF := by
 unfold p6 at h
 split at h
 ·cases h
 ·cases h; intro h; cases h
theorem amr {ts : List Tok} {q : PSx} {m : Bs} {e : Int × Int} (h : s5 ts q m = .error e) : e ≠ noF := by
 unfold s5 at h
 split at h
 ·cases h
 ·cases h; intro h; cases h
theorem aml {ts : List Tok} {q : PSx} {m : Bs} {e : Int × Int} (h : n8 ts q m = .error e) : e ≠ noF := by
 unfold n8 at h
 split at h
 ·split at h
  ·cases h; intro h; cases h
  ·cases h
 ·cases h; intro h; cases h
structure Prog (ts : List Tok) (N f : Nat) : Prop where
 e : ∀ l q a q1, pE ts f l q = .ok (a, q1) → q.1 < q1.1 ∧ q1.1 ≤ N ∧ q1.2 = q.2
 l : ∀ l b q a q1, pL ts f l b q = .ok (a, q1) → q.1 ≤ q1.1 ∧ (q.1 ≤ N → q1.1 ≤ N) ∧ q1.2 = q.2
 p : ∀ q a q1, pP ts f q = .ok (a, q1) → q.1 < q1.1 ∧ q1.1 ≤ N ∧ q1.2 = q.2
 s : ∀ b q a q1, pS ts f b q = .ok (a, q1) → q.1 ≤ q1.1 ∧ (q.1 ≤ N → q1.1 ≤ N) ∧ q1.2 = q.2
 a : ∀ q a q1, pA ts f q = .ok (a, q1) → q.1 < q1.1 ∧ q1.1 ≤ N ∧ q1.2 = q.2
 c : ∀ q a q1, pC ts f q = .ok (a, q1) → q.1 < q1.1 ∧ q1.1 ≤ N ∧ q1.2 = q.2
 r : ∀ n b q a q1, pR ts f n b q = .ok (a, q1) → q.1 ≤ q1.1 ∧ (q.1 ≤ N → q1.1 ≤ N) ∧ q1.2 = q.2
theorem prog (ts : List Tok) {N : Nat} (hN : ∀ k, (b4 ts k).1 ≠ 0 → k < N) : ∀ f, Prog ts N f := by
 intro f
 induction f with
 | zero =>
  refine ⟨?_, ?_, ?_, ?_, ?_, ?_, ?_⟩ <;> intros <;> rename_i h <;> first | (rw [pE] at h; cases h; done) | (rw [pL] at h; cases h; done) | (rw [pP] at h; cases h; done) | (rw [pS] at h; cases h; done) | (rw [pA] at h; cases h; done) | (rw [pC] at h; cases h; done) | (rw [pR] at h; cases h; done)
 | succ f ih =>
  refine ⟨fun l q a q1 h => ?_, fun l b q a q1 h => ?_, fun q a q1 h => ?_, fun b q a q1 h => ?_, fun q a q1 h => ?_, fun q a q1 h => ?_, fun n b q a q1 h => ?_⟩
  ·rw [pE] at h
   split at h
   ·exact ih.p _ _ _ h
   ·split at h
    ·cases h
    ·rename_i a2 q2 h2
     obtain ⟨e1, e2, e3⟩ := ih.e _ _ _ _ h2
     obtain ⟨g1, g2, g3⟩ := ih.l _ _ _ _ _ h
     exact ⟨by omega, g2 e2, g3.trans e3⟩
  ·rw [pL] at h
   split at h
   ·split at h
    ·cases h
    ·rename_i a2 q2 h2
     obtain ⟨e1, e2, e3⟩ := ih.e _ _ _ _ h2
     obtain ⟨g1, g2, g3⟩ := ih.l _ _ _ _ _ h
     exact ⟨by dsimp only at e1; omega, fun _ => g2 e2, g3.trans e3⟩
   ·cases h; exact ⟨Nat.le_refl _, fun h => h, rfl⟩
  ·rw [pP] at h
   split at h
   ·cases h
   ·rename_i a2 q2 h2
    obtain ⟨e1, e2, e3⟩ := ih.a _ _ _ h2
    obtain ⟨g1, g2, g3⟩ := ih.s _ _ _ _ h
    exact ⟨by omega, g2 e2, g3.trans e3⟩
  ·rw [pS] at h
   split at h
   ·rename_i hm
    have hk : q.1 < N := by
     rcases hm with hm | hm | hm <;> exact (hN _ (by rw [(aaa hm).1]; decide))
    obtain ⟨g1, g2, g3⟩ := ih.s _ _ _ _ h
    exact ⟨by dsimp only at g1; omega, fun _ => g2 hk, g3⟩
   ·cases h; exact ⟨Nat.le_refl _, fun h => h, rfl⟩
  ·rw [pA] at h
   split at h
   ·rename_i h1; cases h; exact ⟨Nat.lt_succ_self _, hN _ (by rw [h1]; decide), rfl⟩
   ·split at h
    ·rename_i h1; cases h; exact ⟨Nat.lt_succ_self _, hN _ (by rw [h1]; decide), rfl⟩
    ·split at h
     ·exact ih.c _ _ _ h
     ·split at h
      ·rename_i h1; cases h; exact ⟨Nat.lt_succ_self _, hN _ (by rw [h1.1]; decide), rfl⟩
      ·split at h
       ·split at h
        ·cases h
        ·rename_i q2 h2
         obtain ⟨b1, b2, rfl⟩ := aar h2
         split at h
         ·cases h
         ·rename_i a3 q3 h3
          obtain ⟨e1, e2, e3⟩ := ih.e _ _ _ _ h3
          split at h
          ·cases h
          ·rename_i q4 h4
           obtain ⟨c1, rfl⟩ := adu h4
           cases h
           have := (hN _ (by rw [(aaa c1).1]; decide))
           exact ⟨by dsimp only at e1 ⊢; omega, by dsimp only; omega, by dsimp only at e3 ⊢; omega⟩
       ·split at h
        ·split at h
         ·cases h
         ·rename_i q2 h2
          obtain ⟨b1, b2, rfl⟩ := aar h2
          split at h
          ·cases h
          ·rename_i a3 q3 h3
           obtain ⟨e1, e2, e3⟩ := ih.e _ _ _ _ h3
           split at h
           ·cases h
           ·rename_i q4 h4
            obtain ⟨c1, rfl⟩ := adu h4
            cases h
            have := (hN _ (by rw [(aaa c1).1]; decide))
            exact ⟨by dsimp only at e1 ⊢; omega, by dsimp only; omega, by dsimp only at e3 ⊢; omega⟩
        ·cases h
  ·rw [pC] at h
   split at h
   ·cases h
   ·rename_i q2 h2
    obtain ⟨b1, b2, rfl⟩ := aar h2
    split at h
    ·cases h
    ·rename_i a3 q3 h3
     obtain ⟨e1, e2, e3⟩ := ih.r _ _ _ _ _ h3
     split at h
     ·cases h
     ·rename_i q4 h4
      obtain ⟨c1, rfl⟩ := adu h4
      cases h
      have := (hN _ (by rw [(aaa c1).1]; decide))
      exact ⟨by dsimp only at e1 ⊢; omega, by dsimp only; omega, by dsimp only at e3 ⊢; omega⟩
  ·rw [pR] at h
   split at h
   ·cases h; exact ⟨Nat.le_refl _, fun h => h, rfl⟩
   ·split at h
    ·cases h
    ·rename_i q2 h2
     have hq2 : q.1 ≤ q2.1 ∧ q2.2 = q.2 := by
      split at h2
      ·obtain ⟨_, rfl⟩ := aco h2; exact ⟨by dsimp only; omega, rfl⟩
      ·cases h2; exact ⟨Nat.le_refl _, rfl⟩
     split at h
     ·cases h
     ·rename_i a3 q3 h3
      obtain ⟨e1, e2, e3⟩ := ih.e _ _ _ _ h3
      obtain ⟨g1, g2, g3⟩ := ih.r _ _ _ _ _ h
      exact ⟨by omega, fun _ => g2 e2, by rw [g3, e3, hq2.2]⟩
structure Mono (ts : List Tok) (f : Nat) : Prop where
 e : ∀ l q r, pE ts f l q = r → r ≠ .error noF → pE ts (f + 1) l q = r
 l : ∀ l b q r, pL ts f l b q = r → r ≠ .error noF → pL ts (f + 1) l b q = r
 p : ∀ q r, pP ts f q = r → r ≠ .error noF → pP ts (f + 1) q = r
 s : ∀ b q r, pS ts f b q = r → r ≠ .error noF → pS ts (f + 1) b q = r
 a : ∀ q r, pA ts f q = r → r ≠ .error noF → pA ts (f + 1) q = r
 c : ∀ q r, pC ts f q = r → r ≠ .error noF → pC ts (f + 1) q = r
 r : ∀ n b q r, pR ts f n b q = r → r ≠ .error noF → pR ts (f + 1) n b q = r
theorem mono (ts : List Tok) : ∀ f, Mono ts f := by
 intro f
 induction f with
 | zero =>
  refine ⟨fun l q r h hr => ?_, fun l b q r h hr => ?_, fun q r h hr => ?_, fun b q r h hr => ?_, fun q r h hr => ?_, fun q r h hr => ?_, fun n b q r h hr => ?_⟩
  ·rw [pE] at h; exact absurd h.symm hr
  ·rw [pL] at h; exact absurd h.symm hr
  ·rw [pP] at h; exact absurd h.symm hr
  ·rw [pS] at h; exact absurd h.symm hr
  ·rw [pA] at h; exact absurd h.symm hr
  ·rw [pC] at h; exact absurd h.symm hr
  ·rw [pR] at h; exact absurd h.symm hr
 | succ f ih =>
  refine ⟨fun l q r h hr => ?_, fun l b q r h hr => ?_, fun q r h hr => ?_, fun b q r h hr => ?_, fun q r h hr => ?_, fun q r h hr => ?_, fun n b q r h hr => ?_⟩
  ·rw [pE] at h; rw [pE]
   split
   ·rename_i h5; rw [if_pos h5] at h; exact ih.p _ _ h hr
   ·rename_i h5; rw [if_neg h5] at h
    cases hx : pE ts f (l + 1) q with
    | error e => rw [hx] at h; subst h; rw [ih.e _ _ _ hx (fun he => hr (by cases he; rfl))]
    | ok x => obtain ⟨a, q1⟩ := x; rw [hx] at h; rw [ih.e _ _ _ hx (fun he => by cases he)]; exact ih.l _ _ _ _ h hr
  ·rw [pL] at h; rw [pL]
   split
   ·rename_i h5; rw [if_pos h5] at h
    cases hx : pE ts f (l + 1) (q.1 + 1, q.2) with
    | error e => rw [hx] at h; subst h; rw [ih.e _ _ _ hx (fun he => hr (by cases he; rfl))]
    | ok x => obtain ⟨a, q1⟩ := x; rw [hx] at h; rw [ih.e _ _ _ hx (fun he => by cases he)]; exact ih.l _ _ _ _ h hr
   ·rename_i h5; rw [if_neg h5] at h; exact h
  ·rw [pP] at h; rw [pP]
   cases hx : pA ts f q with
   | error e => rw [hx] at h; subst h; rw [ih.a _ _ hx (fun he => hr (by cases he; rfl))]
   | ok x => obtain ⟨a, q1⟩ := x; rw [hx] at h; rw [ih.a _ _ hx (fun he => by cases he)]; exact ih.s _ _ _ h hr
  ·rw [pS] at h; rw [pS]
   split
   ·rename_i h5; rw [if_pos h5] at h; exact ih.s _ _ _ h hr
   ·rename_i h5; rw [if_neg h5] at h; exact h
  ·rw [pA] at h; rw [pA]
   by_cases h1 : (b4 ts q.1).1 = 2
   ·rw [if_pos h1] at h ⊢; exact h
   rw [if_neg h1] at h ⊢
   by_cases h2 : (b4 ts q.1).1 = 3
   ·rw [if_pos h2] at h ⊢; exact h
   rw [if_neg h2] at h ⊢
   by_cases h3 : (b4 ts q.1).1 = 1 ∧ 0 < d6 (b4 ts q.1).2.2
   ·rw [if_pos h3] at h ⊢; exact ih.c _ _ h hr
   rw [if_neg h3] at h ⊢
   by_cases h4 : (b4 ts q.1).1 = 1 ∧ d6 (b4 ts q.1).2.2 = 0
   ·rw [if_pos h4] at h ⊢; exact h
   rw [if_neg h4] at h ⊢
   by_cases h5 : isM ts q.1 [123] = true
   ·rw [if_pos h5] at h ⊢
    cases hx : n8 ts q [123] with
    | error e => rw [hx] at h; exact h
    | ok q1 =>
     rw [hx] at h
     dsimp only at h ⊢
     cases hy : pE ts f 0 q1 with
     | error e => rw [hy] at h; subst h; rw [ih.e _ _ _ hy (fun he => hr (by cases he; rfl))]
     | ok x => obtain ⟨a, q2⟩ := x; rw [hy] at h; rw [ih.e _ _ _ hy (fun he => by cases he)]; exact h
   rw [if_neg h5] at h ⊢
   by_cases h6 : isM ts q.1 [40] = true
   ·rw [if_pos h6] at h ⊢
    cases hx : n8 ts q [40] with
    | error e => rw [hx] at h; exact h
    | ok q1 =>
     rw [hx] at h
     dsimp only at h ⊢
     cases hy : pE ts f 0 q1 with
     | error e => rw [hy] at h; subst h; rw [ih.e _ _ _ hy (fun he => hr (by cases he; rfl))]
     | ok x => obtain ⟨a, q2⟩ := x; rw [hy] at h; rw [ih.e _ _ _ hy (fun he => by cases he)]; exact h
   rw [if_neg h6] at h ⊢; exact h
  ·rw [pC] at h; rw [pC]
   cases hx : n8 ts (q.1 + 1, q.2) [40] with
   | error e => rw [hx] at h; exact h
   | ok q1 =>
    rw [hx] at h
    dsimp only at h ⊢
    cases hy : pR ts f (d6 (b4 ts q.1).2.2).toNat .nil q1 with
    | error e => rw [hy] at h; subst h; rw [ih.r _ _ _ _ hy (fun he => hr (by cases he; rfl))]
    | ok x => obtain ⟨a, q2⟩ := x; rw [hy] at h; rw [ih.r _ _ _ _ hy (fun he => by cases he)]; exact h
  ·rw [pR] at h; rw [pR]
   split
   ·rename_i h5; rw [if_pos h5] at h; exact h
   ·rename_i h5; rw [if_neg h5] at h
    cases hx : (if 0 < b.len then p6 ts q [44] else .ok q : Except (Int × Int) PSx) with
    | error e => rw [hx] at h; exact h
    | ok q1 =>
     rw [hx] at h
     dsimp only at h ⊢
     cases hy : pE ts f 0 q1 with
     | error e => rw [hy] at h; subst h; rw [ih.e _ _ _ hy (fun he => hr (by cases he; rfl))]
     | ok x => obtain ⟨a, q2⟩ := x; rw [hy] at h; rw [ih.e _ _ _ hy (fun he => by cases he)]; exact ih.r _ _ _ _ h hr
structure Enough (ts : List Tok) (f : Nat) : Prop where
 e : ∀ l q, 10 * (ts.length - q.1) + (8 - min l 5) ≤ f → pE ts f l q ≠ .error noF
 l : ∀ l a q, 10 * (ts.length - q.1) + 9 ≤ f → pL ts f l a q ≠ .error noF
 p : ∀ q, 10 * (ts.length - q.1) + 2 ≤ f → pP ts f q ≠ .error noF
 s : ∀ a q, 10 * (ts.length - q.1) + 9 ≤ f → pS ts f a q ≠ .error noF
 a : ∀ q, 10 * (ts.length - q.1) + 1 ≤ f → pA ts f q ≠ .error noF
 c : ∀ q, (b4 ts q.1).1 ≠ 0 → 10 * (ts.length - q.1) ≤ f → pC ts f q ≠ .error noF
 r : ∀ n a q, 10 * (ts.length - q.1) + 9 ≤ f → pR ts f n a q ≠ .error noF
theorem adl {α : Type} {e : Int × Int} (h : e ≠ noF) : (.error e : Except (Int × Int) α) ≠ .error noF := fun he => h (by cases he; rfl)
theorem ai5 {α : Type} {e : Int × Int} {x : Except (Int × Int) α} (h : x ≠ .error noF) (hx : x = .error e) : e ≠ noF := fun he => h (by rw [hx, he])
theorem ahg (ts : List Tok) : ∀ f, Enough ts f := by
 intro f
 induction f with
 | zero => exact ⟨fun l q h => by omega, fun l a q h => by omega, fun q h => by omega, fun a q h => by omega, fun q h => by omega, fun q hk h => by have := ajj hk; omega, fun n a q h => by omega⟩
 | succ f ih =>
  have pg := prog ts (N := ts.length) (fun _ => ajj) f
  refine ⟨fun l q h => ?_, fun l a q h => ?_, fun q h => ?_, fun a q h => ?_, fun q h => ?_, fun q hk h => ?_, fun n a q h => ?_⟩
  ·rw [pE]
   split
   ·exact ih.p q (by omega)
   ·have h1 := ih.e (l + 1) q (by omega)
    split
    ·rename_i e hx; exact adl (ai5 h1 hx)
    ·rename_i a q1 hx
     obtain ⟨e1, e2, _⟩ := pg.e _ _ _ _ hx
     exact ih.l _ _ _ (by omega)
  ·rw [pL]
   split
   ·rename_i h5
    have hk := ajj (ts := ts) (k := q.1) (by rw [h5.1]; decide)
    have h1 := ih.e (l + 1) (q.1 + 1, q.2) (by dsimp only; omega)
    split
    ·rename_i e hx; exact adl (ai5 h1 hx)
    ·rename_i b q1 hx
     obtain ⟨e1, e2, _⟩ := pg.e _ _ _ _ hx
     exact ih.l _ _ _ (by dsimp only at e1; omega)
   ·intro h; cases h
  ·rw [pP]
   have h1 := ih.a q (by omega)
   split
   ·rename_i e hx; exact adl (ai5 h1 hx)
   ·rename_i a q1 hx
    obtain ⟨e1, e2, _⟩ := pg.a _ _ _ hx
    exact ih.s _ _ (by omega)
  ·rw [pS]
   split
   ·rename_i hm
    have hk : q.1 < ts.length := by rcases hm with hm | hm | hm <;> exact (aaa hm).2.2
    exact ih.s _ _ (by dsimp only; omega)
   ·intro h; cases h
  ·rw [pA]
   by_cases h1 : (b4 ts q.1).1 = 2
   ·rw [if_pos h1]; intro h; cases h
   rw [if_neg h1]
   by_cases h2 : (b4 ts q.1).1 = 3
   ·rw [if_pos h2]; intro h; cases h
   rw [if_neg h2]
   by_cases h3 : (b4 ts q.1).1 = 1 ∧ 0 < d6 (b4 ts q.1).2.2
   ·rw [if_pos h3]; exact ih.c q (by rw [h3.1]; decide) (by omega)
   rw [if_neg h3]
   by_cases h4 : (b4 ts q.1).1 = 1 ∧ d6 (b4 ts q.1).2.2 = 0
   ·rw [if_pos h4]; intro h; cases h
   rw [if_neg h4]
   have key : ∀ (m m2 : Bs) (g : Ex → Ex), (match n8 ts q m with
     | .error e => .error e
     | .ok q1 => match pE ts f 0 q1 with
      | .error e => .error e
      | .ok (a, q2) => match s5 ts q2 m2 with
       | .error e => .error e
       | .ok q3 => .ok (g a, q3) : Except (Int × Int) (Ex × PSx)) ≠ .error noF := by
    intro m m2 g
    cases hx : n8 ts q m with
    | error e => exact adl (aml hx)
    | ok q1 =>
     obtain ⟨b1, _, rfl⟩ := aar hx
     have hk := (aaa b1).2.2
     have h9 := ih.e 0 (q.1 + 1, q.2 + 1) (by dsimp only; omega)
     dsimp only
     cases hy : pE ts f 0 (q.1 + 1, q.2 + 1) with
     | error e => exact adl (ai5 h9 hy)
     | ok x =>
      obtain ⟨a, q2⟩ := x
      dsimp only
      cases hz : s5 ts q2 m2 with
      | error e => exact adl (amr hz)
      | ok q3 => intro h; cases h
   by_cases h5 : isM ts q.1 [123] = true
   ·rw [if_pos h5]; exact key [123] [125] (fun a => .keyed (b4 ts q.1).2.1 a)
   rw [if_neg h5]
   by_cases h6 : isM ts q.1 [40] = true
   ·rw [if_pos h6]; exact key [40] [41] (fun a => a)
   rw [if_neg h6]; intro h; cases h
  ·rw [pC]
   split
   ·rename_i e hx; exact adl (aml hx)
   ·rename_i q1 hx
    obtain ⟨b1, _, rfl⟩ := aar hx
    have hk2 := (aaa b1).2.2
    have h9 := ih.r (d6 (b4 ts q.1).2.2).toNat .nil (q.1 + 1 + 1, q.2 + 1) (by dsimp only at hk2 ⊢; omega)
    split
    ·rename_i e hy; exact adl (ai5 h9 hy)
    ·split
     ·rename_i e hz; exact adl (amr hz)
     ·intro h; cases h
  ·rw [pR]
   split
   ·intro h; cases h
   ·split
    ·rename_i e hx
     split at hx
     ·exact adl (avs hx)
     ·cases hx
    ·rename_i q1 hx
     have hq : q.1 ≤ q1.1 := by
      split at hx
      ·obtain ⟨_, rfl⟩ := aco hx; dsimp only; omega
      ·cases hx; exact Nat.le_refl _
     have h9 := ih.e 0 q1 (by omega)
     split
     ·rename_i e hy; exact adl (ai5 h9 hy)
     ·rename_i b q2 hy
      obtain ⟨e1, e2, _⟩ := pg.e _ _ _ _ hy
      exact ih.r _ _ _ (by omega)
end Go.Proofs.YtifajndacnfcbaaDoor
namespace Go.Proofs.YtifajndacnfcbaaDoor
open Go Go.RowKit
def BIG (ts : List Tok) : Nat := 10 * ts.length + 20
theorem adp (ts : List Tok) : BIG ts = (10 * ts.length + 19) + 1 := rfl
abbrev RsX (α : Type) := Except (Int × Int) (α × PSx)
def sE (ts : List Tok) (l : Nat) (q : PSx) : RsX Ex := pE ts (BIG ts) l q
def sL (ts : List Tok) (l : Nat) (a : Ex) (q : PSx) : RsX Ex := pL ts (BIG ts) l a q
def sP (ts : List Tok) (q : PSx) : RsX Ex := pP ts (BIG ts) q
def sS (ts : List Tok) (a : Ex) (q : PSx) : RsX Ex := pS ts (BIG ts) a q
def sA (ts : List Tok) (q : PSx) : RsX Ex := pA ts (BIG ts) q
def sC (ts : List Tok) (q : PSx) : RsX Ex := pC ts (BIG ts) q
def sR (ts : List Tok) (n : Nat) (l : ExL) (q : PSx) : RsX ExL := pR ts (BIG ts) n l q
section
variable {ts : List Tok} {l n : Nat} {a : Ex} {q : PSx} {b : ExL}
theorem aw4 : pE ts (10 * ts.length + 19) l q = sE ts l q := ((mono ts _).e l q _ rfl ((ahg ts _).e l q (by omega))).symm
theorem ax6 : pL ts (10 * ts.length + 19) l a q = sL ts l a q := ((mono ts _).l l a q _ rfl ((ahg ts _).l l a q (by omega))).symm
theorem ayi : pP ts (10 * ts.length + 19) q = sP ts q := ((mono ts _).p q _ rfl ((ahg ts _).p q (by omega))).symm
theorem ayd : pS ts (10 * ts.length + 19) a q = sS ts a q := ((mono ts _).s a q _ rfl ((ahg ts _).s a q (by omega))).symm
theorem ayk : pA ts (10 * ts.length + 19) q = sA ts q := ((mono ts _).a q _ rfl ((ahg ts _).a q (by omega))).symm
theorem ayj (h : (b4 ts q.1).1 ≠ 0) : pC ts (10 * ts.length + 19) q = sC ts q := ((mono ts _).c q _ rfl ((ahg ts _).c q h (by omega))).symm
theorem ayb : pR ts (10 * ts.length + 19) n b q = sR ts n b q := ((mono ts _).r n b q _ rfl ((ahg ts _).r n b q (by omega))).symm
theorem ao8 : sE ts l q = if 5 ≤ l then sP ts q else match sE ts (l + 1) q with
  | .error e => .error e
  | .ok (a, q1) => sL ts l a q1 := by
 unfold sE
 rw [adp, pE, ayi]
 simp only [aw4, ax6]
 rfl
theorem al6 : sL ts l a q = if (b4 ts q.1).1 = 4 ∧ d8 (b4 ts q.1).2.2 = l then match sE ts (l + 1) (q.1 + 1, q.2) with
   | .error e => .error e
   | .ok (b, q2) => sL ts l (.binary (b4 ts q.1).2.1 (b4 ts q.1).2.2 a b) q2
  else .ok (a, q) := by
 unfold sL
 rw [adp, pL]
 simp only [aw4, ax6]
 rfl
theorem arb : sP ts q = match sA ts q with
  | .error e => .error e
  | .ok (a, q1) => sS ts a q1 := by
 unfold sP
 rw [adp, pP]
 simp only [ayk, ayd]
 all_goals rfl
theorem ar0 : sS ts a q = if isM ts q.1 [42] = true ∨ isM ts q.1 [43] = true ∨ isM ts q.1 [63] = true then sS ts (.unary (b4 ts q.1).2.1 (b4 ts q.1).2.2 a) (q.1 + 1, q.2) else .ok (a, q) := by
 unfold sS
 rw [adp, pS]
 simp only [ayd]
 rfl
def brM (ts : List Tok) (m m2 : Bs) (g : Ex → Ex) (q : PSx) : RsX Ex := match n8 ts q m with
 | .error e => .error e
 | .ok q1 => match sE ts 0 q1 with
  | .error e => .error e
  | .ok (a, q2) => match s5 ts q2 m2 with
   | .error e => .error e
   | .ok q3 => .ok (g a, q3)
theorem ady : sA ts q = if (b4 ts q.1).1 = 2 then .ok (.text (b4 ts q.1).2.1 (b4 ts q.1).2.2, (q.1 + 1, q.2))
  else if (b4 ts q.1).1 = 3 then .ok (.regex (b4 ts q.1).2.1 (b4 ts q.1).2.2, (q.1 + 1, q.2))
  else if (b4 ts q.1).1 = 1 ∧ 0 < d6 (b4 ts q.1).2.2 then sC ts q
  else if (b4 ts q.1).1 = 1 ∧ d6 (b4 ts q.1).2.2 = 0 then .ok (.name (b4 ts q.1).2.1 (b4 ts q.1).2.2, (q.1 + 1, q.2))
  else if isM ts q.1 [123] = true then brM ts [123] [125] (.keyed (b4 ts q.1).2.1) q
  else if isM ts q.1 [40] = true then brM ts [40] [41] (fun a => a) q
  else .error (60, (b4 ts q.1).2.1) := by
 unfold sA brM
 rw [adp, pA]
 simp only [aw4]
 by_cases h3 : (b4 ts q.1).1 = 1 ∧ 0 < d6 (b4 ts q.1).2.2
 ·rw [ayj (by rw [h3.1]; decide)]; rfl
 ·simp only [if_neg h3]; rfl
theorem axh (_h : (b4 ts q.1).1 ≠ 0) : sC ts q = match n8 ts (q.1 + 1, q.2) [40] with
  | .error e => .error e
  | .ok q1 => match sR ts (d6 (b4 ts q.1).2.2).toNat .nil q1 with
   | .error e => .error e
   | .ok (l, q2) => match s5 ts q2 [41] with
    | .error e => .error e
    | .ok q3 => .ok (.call (b4 ts q.1).2.1 (b4 ts q.1).2.2 l, q3) := by
 unfold sC
 rw [adp, pC]
 simp only [ayb]
 all_goals rfl
theorem aro : sR ts n b q = if n ≤ b.len then .ok (b, q)
  else match (if 0 < b.len then p6 ts q [44] else .ok q) with
   | .error e => .error e
   | .ok q1 => match sE ts 0 q1 with
    | .error e => .error e
    | .ok (a, q2) => sR ts n (b.snoc a) q2 := by
 unfold sR
 rw [adp, pR]
 simp only [aw4, ayb]
 rfl
theorem acu {a : Ex} {q1 : PSx} (h : sE ts l q = .ok (a, q1)) : q.1 < q1.1 ∧ q1.1 ≤ ts.length ∧ q1.2 = q.2 := (prog ts (fun _ => ajj) _).e _ _ _ _ h
end
def ama (ts : List Tok) : Prop := 0 < ts.length ∧ (b4 ts (ts.length - 1)).1 = 0
theorem ama.lt {ts : List Tok} (h : ama ts) (k : Nat) (hk : (b4 ts k).1 ≠ 0) : k < ts.length - 1 := by
 have h1 := ajj hk
 rcases Nat.lt_or_ge k (ts.length - 1) with g | g
 ·exact g
 ·exfalso; apply hk; rw [show k = ts.length - 1 by omega]; exact h.2
theorem aj4 {ts : List Tok} (h : ama ts) {l : Nat} {q q1 : PSx} {a : Ex} (h1 : sE ts l q = .ok (a, q1)) : q1.1 < ts.length := by
 have := ((prog ts h.lt _).e _ _ _ _ h1).2.1
 have := h.1
 omega
theorem ayc {ts : List Tok} (h : ama ts) {q q1 : PSx} {a : Ex} (h1 : sA ts q = .ok (a, q1)) : q1.1 < ts.length := by
 have := ((prog ts h.lt _).a _ _ _ h1).2.1
 have := h.1
 omega
def Sg (ts : List Tok) (l : Int) (q : PSx) : Prop := (b4 ts q.1).1 = 4 ∧ l ≤ d8 (b4 ts q.1).2.2
theorem am7 (s : Bs) : -1 ≤ d8 s ∧ d8 s ≤ 4 := by
 unfold d8
 (repeat' split) <;> omega
structure Stops (ts : List Tok) (f : Nat) : Prop where
 e : ∀ l q a q1, l ≤ 5 → pE ts f l q = .ok (a, q1) → ¬ Sg ts l q1
 l : ∀ (l : Nat) b q a q1, l < 5 → ¬ Sg ts (l + 1) q → pL ts f l b q = .ok (a, q1) → ¬ Sg ts l q1
theorem ax8 (ts : List Tok) : ∀ f, Stops ts f := by
 intro f
 induction f with
 | zero => exact ⟨fun l q a q1 _ h => (by rw [pE] at h; cases h), fun l b q a q1 _ _ h => (by rw [pL] at h; cases h)⟩
 | succ f ih =>
  refine ⟨fun l q a q1 hl h => ?_, fun l b q a q1 hl hs h => ?_⟩
  ·rw [pE] at h
   split at h
   ·rintro ⟨_, h2⟩
    have := (am7 (b4 ts q1.1).2.2).2
    omega
   ·split at h
    ·cases h
    ·rename_i b q2 h2
     have h3 := ih.e (l + 1) q b q2 (by omega) h2
     exact ih.l l b q2 a q1 (by omega) (by exact_mod_cast h3) h
  ·rw [pL] at h
   split at h
   ·split at h
    ·cases h
    ·rename_i c q2 h2
     have h3 := ih.e (l + 1) _ c q2 (by omega) h2
     exact ih.l l _ q2 a q1 hl (by exact_mod_cast h3) h
   ·rename_i hn
    cases h
    rintro ⟨g1, g2⟩
    rcases Int.lt_or_eq_of_le g2 with g3 | g3
    ·exact hs ⟨g1, by omega⟩
    ·exact hn ⟨g1, g3.symm⟩
theorem awf {ts : List Tok} {l : Nat} {q q1 : PSx} {a : Ex} (hl : l ≤ 5) (h : sE ts l q = .ok (a, q1)) : ¬ Sg ts l q1 := (ax8 ts _).e l q a q1 hl h
def W (ts : List Tok) (r : Nat) : Nat → Ex → PSx → RsX Ex
 | 0, a, q => .ok (a, q)
 | j + 1, a, q => match sL ts (r + j) a q with
  | .error e => .error e
  | .ok (b, q1) => W ts r j b q1
theorem E_W {ts : List Tok} {q : PSx} (r : Nat) : ∀ j, r + j ≤ 5 → sE ts r q = match sE ts (r + j) q with
  | .error e => .error e
  | .ok (a, q1) => W ts r j a q1
 | 0, _ => by
  rw [Nat.add_zero]
  cases h : sE ts r q with
  | error e => rfl
  | ok x => obtain ⟨a, q1⟩ := x; rfl
 | j + 1, hj => by
  rw [E_W r j (by omega), ao8 (l := r + j), if_neg (by omega), Nat.add_assoc]
  cases h : sE ts (r + (j + 1)) q with
  | error e => rfl
  | ok x =>
   obtain ⟨a, q1⟩ := x
   dsimp only
   rw [W]
theorem E_P {ts : List Tok} {q : PSx} {r : Nat} (hr : r ≤ 5) : sE ts r q = match sP ts q with
  | .error e => .error e
  | .ok (a, q1) => W ts r (5 - r) a q1 := by
 rw [E_W r (5 - r) (by omega), show r + (5 - r) = 5 by omega, ao8, if_pos (Nat.le_refl 5)]
theorem aqm {ts : List Tok} {r : Nat} {a : Ex} {q : PSx} (h : ¬ Sg ts r q) : ∀ j, W ts r j a q = .ok (a, q)
 | 0 => rfl
 | j + 1 => by
  have : sL ts (r + j) a q = .ok (a, q) := by
   rw [al6, if_neg]
   rintro ⟨h1, h2⟩
   exact h ⟨h1, by rw [h2]; omega⟩
  rw [W, this]
  exact aqm h j
theorem aq1 {ts : List Tok} {r k : Nat} {a : Ex} {q : PSx} (h : ¬ Sg ts ((r + k : Nat) : Int) q) : ∀ j, k ≤ j → W ts r j a q = W ts r k a q
 | 0, hj => by
  obtain rfl : k = 0 := by omega
  rfl
 | j + 1, hj => by
  by_cases hk : k = j + 1
  ·rw [hk]
  ·have : sL ts (r + j) a q = .ok (a, q) := by
    rw [al6, if_neg]
    rintro ⟨h1, h2⟩
    exact h ⟨h1, by rw [h2]; omega⟩
   rw [W, this]
   exact aq1 h j (by omega)
theorem axx {ts : List Tok} {r k : Nat} {a : Ex} {q : PSx} (hk : (b4 ts q.1).1 = 4) (hr : d8 (b4 ts q.1).2.2 = k) (h1 : r ≤ k) (h5 : k < 5) : W ts r (5 - r) a q = match sE ts (k + 1) (q.1 + 1, q.2) with
  | .error e => .error e
  | .ok (b, q2) => W ts r (5 - r) (.binary (b4 ts q.1).2.1 (b4 ts q.1).2.2 a b) q2 := by
 have hn : ¬ Sg ts ((r + (k - r + 1) : Nat) : Int) q := by rintro ⟨_, g2⟩; rw [hr] at g2; omega
 rw [aq1 hn (5 - r) (by omega), W, show r + (k - r) = k by omega, al6, if_pos ⟨hk, hr⟩]
 cases h : sE ts (k + 1) (q.1 + 1, q.2) with
 | error e => rfl
 | ok x =>
  obtain ⟨b, q2⟩ := x
  dsimp only
  have hs := awf (by omega) h
  rw [aq1 (k := k - r + 1) (by rw [show r + (k - r + 1) = k + 1 by omega]; exact hs) (5 - r) (by omega), W, show r + (k - r) = k by omega]
end Go.Proofs.YtifajndacnfcbaaDoor
namespace Go.Proofs.YtifajndacnfcbaaDoor
open Go Go.RowKit
variable {P : Program} {Q : Exit → Act → World → Prop} {C : Cx} {L : Sl} {H : List HA}
section st
variable {x y : Operand} {t ty T : TypeId} {p : String} {e : Array Edge} {g : Option (Nat × Bool)} {v u : Value} {sz : Nat} {α : Type} [Inhabited α] {f : α → List Value} {l : List α}
end st
theorem CV.fn {f : FuncId} {xs : List Operand} {ats : Array TypeId} {d : Option Tmp} {ty : TypeId} {p : String} {e : Array Edge} {g : Option (Nat × Bool)} {vs : List Value} {R : List (Nat × Obj)} {v : Value} (he : k9 P f = true) (hx : evs L xs = some vs) (hc : d9 P f vs R [] (Ret v [])) (hR : Rd C H R) :
  CV P C L H ⟨d, .call ⟨.value (.func f), xs.toArray, ats⟩, ty, p, e, g⟩ v := ⟨f, vs, R, EN.fn he hx, hc, hR⟩
theorem d9.one {P : Program} {f : FuncId} {args : List Value} {R : List (Nat × Obj)} {α : Type} {e : α → Value} {c : α} (h : d9 P f args R [] (fun o => (∃ v, v = c ∧ o = .ret (e v) []) ∨ False)) : d9 P f args R [] (Ret (e c) []) := h.weak (by
 rintro o (⟨v, rfl, rfl⟩ | h)
 ·rfl
 ·exact h.elim)
end Go.Proofs.YtifajndacnfcbaaDoor
namespace Go.Proofs.YtifajndacnfcbaaDoor
open Go Go.RowKit
variable {P : Program} {C : Cx} {H : List HA}
theorem LOk.at {v : Value} {n : Nat} {xs : List Value} (hL : LOk C H v n xs) {w : World} (hp : Hp C H w) : ∃ R, aqu v R n xs ∧ ∀ p ∈ R, w.heap[p.1]? = some p.2 := by
 obtain ⟨F, h1, _⟩ := hp.own
 obtain ⟨R, hR, hh⟩ := hL w F h1
 refine ⟨R, hR, fun p hp' => ?_⟩
 rcases hh p hp' with h | h
 ·exact h.1
 ·exact hp.old h
end Go.Proofs.YtifajndacnfcbaaDoor
