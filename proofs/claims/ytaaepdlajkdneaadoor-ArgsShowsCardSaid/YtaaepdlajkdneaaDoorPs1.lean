/-
  Merged: Gwr, Gws, Gwt, Gwe, Gwb, Gwl, Gwi, Gwk, Gwv, Gwy, Gwz, Gwu, Gwp, Gwq, Gwn, FlowC, Gwj, Gwd, Shelf, ArD, ArT.
-/
import Derived.Deep.DeepAppendWide
import Derived.Laws.OwnMore
import Derived.Lib.AppendStr
import Derived.Laws.StructEq
import Derived.Lib.Builder
import Derived.Laws.Pointers
import Derived.Laws.Externs
import Derived.Maps.Own
import Derived.Maps.Views
import Derived.Recover
import Derived.Shelf.Strings.Trim
import Derived.Shelf.Small.Utf8
import Derived.Shelf.Small.Strs
import Derived.Shelf.Strconv.Atoi
import Derived.Shelf.Strconv.Itoa0
import Derived.Shelf.Strconv.Itoa1
import Derived.Shelf.LaysM
import Derived.Shelf.Strconv.Itoa2
import Derived.Shelf.Strconv.Itoa3
import Derived.Shelf.Strings.Search1
import Derived.Shelf.Strings.Search2
import Derived.Shelf.Strings.Search3
import Derived.Shelf.Strings.Shaped
import Derived.Shelf.Unicode.Decode
import Derived.Shelf.Strings.Runes
import Derived.Shelf.Strings.AsciiSet
import Derived.Shelf.Unicode.DecodeSlow
import Derived.Shelf.Unicode.DecodeAny
import Derived.Shelf.Unicode.DecodeLast
import Derived.Test.YtaaepdlajkdneaaDoorProg
import Derived.Lib.AtoiErrMem
import Derived.Test.YtaaepdlajkdneaaDoorCards
import Derived.Test.YtaaepdlajkdneaaDoorTie
import Derived.OpenShut
import Derived.LaidLaws
import Derived.ChangeArms
import Derived.Deep.DeepHandedRow
import Derived.Deep.DeepWitnessRowRef
import Derived.Test.YtaaepdlajkdneaaDoorPs0
namespace Go.Proofs.YtaaepdlajkdneaaDoor
open Go Go.RowKit
variable {P : Program} {ops : Array Oper} {Q : Exit → Act → World → Prop} {C : Cx} {L : Sl} {H : List HA} {rest : List Oper} {o : Oper} {w : World}
def x9 : Value → Nat
 | .slice (some a) _ _ => a.block
 | _ => 0
theorem afd : ∀ {Fs : List (List Nat)} {i : Nat} {F F' : List Nat}, Fs.flatten.Nodup → Fs[i]? = some F → F'.Nodup → (∀ k ∈ F', k ∈ F ∨ ∀ G ∈ Fs, k ∉ G) → (Fs.set i F').flatten.Nodup
 | [], i, F, F', _, h, _, _ => by simp at h
 | G :: Fs, 0, F, F', hn, h, hF, hk => by
  simp at h
  subst h
  rw [List.flatten_cons, List.nodup_append] at hn
  rw [List.set_cons_zero, List.flatten_cons, List.nodup_append]
  refine ⟨hF, hn.2.1, fun x hx y hy e => ?_⟩
  subst e
  obtain ⟨G', hG', hxG⟩ := List.mem_flatten.1 hy
  rcases hk x hx with h1 | h1
  ·exact hn.2.2 x h1 x hy rfl
  ·exact h1 G' (List.mem_cons_of_mem _ hG') hxG
 | G :: Fs, i + 1, F, F', hn, h, hF, hk => by
  simp at h
  rw [List.flatten_cons, List.nodup_append] at hn
  rw [List.set_cons_succ, List.flatten_cons, List.nodup_append]
  refine ⟨hn.1, afd hn.2.1 h hF fun k hkk => (hk k hkk).imp_right fun h1 G' hG' => h1 G' (List.mem_cons_of_mem _ hG'), fun x hx y hy e => ?_⟩
  subst e
  obtain ⟨G', hG', hxG⟩ := List.mem_flatten.1 hy
  rcases List.mem_or_eq_of_mem_set hG' with h1 | h1
  ·exact hn.2.2 x hx x (List.mem_flatten.2 ⟨G', h1, hxG⟩) rfl
  ·subst h1
   rcases hk x hxG with h2 | h2
   ·exact hn.2.2 x hx x (List.mem_flatten.2 ⟨F, List.mem_of_getElem? h, h2⟩) rfl
   ·exact h2 G (List.mem_cons_self ..) hx
theorem af0 {w' : World} : ∀ {Fs : List (List Nat)} {H : List HA} {i : Nat} {x' : HA} {F' : List Nat}, Fs.length = H.length → (∀ (j : Nat) (h : HA) (f : List Nat), H[j]? = some h → j ≠ i → Fs[j]? = some f → h.at w' f) → x'.at w' F' → Own w' (H.set i x') (Fs.set i F').flatten
 | [], [], i, x', F', _, _, _ => by simp [Own]
 | [], _ :: _, _, _, _, hl, _, _ => by simp at hl
 | _ :: _, [], _, _, _, hl, _, _ => by simp at hl
 | F :: Fs, h0 :: H, 0, x', F', hl, hall, hx => by
  refine ⟨F', Fs.flatten, by simp, hx, ?_⟩
  have := af0 (w' := w') (Fs := Fs) (H := H) (i := H.length) (x' := x') (F' := F') (by simpa using hl) (fun j h f hh _ hf => hall (j + 1) h f (by simpa using hh) (by omega) (by simpa using hf)) hx
  have hl' : Fs.length = H.length := by simpa using hl
  rwa [List.set_eq_of_length_le (Nat.le_refl _), List.set_eq_of_length_le (by omega)] at this
 | F :: Fs, h0 :: H, i + 1, x', F', hl, hall, hx => by
  refine ⟨F, (Fs.set i F').flatten, by simp, hall 0 h0 F (by simp) (by omega) (by simp), ?_⟩
  exact af0 (by simpa using hl) (fun j h f hh hn hf => hall (j + 1) h f (by simpa using hh) (by omega) (by simpa using hf)) hx
theorem Hp.swap (h : Hp C H w) {w' : World} {i : Nat} {x x' : HA} (hi : H[i]? = some x) (hos : w'.os = w.os) (htape : w'.tape = w.tape) (hout : w'.output = w.output) (hsz : w.heap.size ≤ w'.heap.size)
  (hoth : ∀ F, x.at w F → ∀ k, k < w.heap.size → k ∉ F → w'.heap[k]? = w.heap[k]?)
  (hst : ∀ F, x.at w F → F.Nodup → ∃ F', x'.at w' F' ∧ F'.Nodup ∧ (∀ k ∈ F', (k ∈ F ∨ w.heap.size ≤ k) ∧ k < w'.heap.size)) : Hp C (H.set i x') w' := by
 obtain ⟨F0, h1, h2, h3⟩ := h.own
 obtain ⟨Fs, hl, rfl, hall⟩ := h1.parts
 have hlt : i < Fs.length := by rw [hl]; exact (List.getElem?_eq_some_iff.1 hi).1
 have hfi : Fs[i]? = some Fs[i] := List.getElem?_eq_getElem hlt
 have hx := hall i _ _ hi hfi
 obtain ⟨F', k1, k2, k3⟩ := hst _ hx (ad0 h2 hfi)
 have hmem : ∀ G ∈ Fs, ∀ k ∈ G, k < w.heap.size ∧ (C.w0.heap.size ≤ k ∨ k ∈ C.M) := fun G hG k hk => h3 k (List.mem_flatten.2 ⟨G, hG, hk⟩)
 refine ⟨hos.trans h.os, htape.trans h.tape, hout.trans h.output, Nat.le_trans h.size hsz, fun k hk hM => ?_, h.ro, (Fs.set i F').flatten, ?_, ?_, fun k hk => ?_⟩
 ·rw [hoth _ hx k (by have := h.size; omega) (fun hm => by
   rcases (hmem _ (List.mem_of_getElem? hfi) k hm).2 with h4 | h4
   ·omega
   ·exact hM h4)]
  exact h.keep k hk hM
 ·refine af0 hl (fun j hj f hjj hne hf => ?_) k1
  refine HA.at_keep (hall j hj f hjj hf) fun k hk => hoth _ hx k (hmem f (List.mem_of_getElem? hf) k hk).1 fun hm => ?_
  exact aak h2 hf hfi hne k hk hm
 ·refine afd h2 hfi k2 fun k hk => ?_
  rcases (k3 k hk).1 with h4 | h4
  ·exact .inl h4
  ·exact .inr fun G hG hkG => by have := (hmem G hG k hkG).1; omega
 ·obtain ⟨G, hG, hkG⟩ := List.mem_flatten.1 hk
  rcases List.mem_or_eq_of_mem_set hG with h4 | h4
  ·exact ⟨Nat.lt_of_lt_of_le (hmem G h4 k hkG).1 hsz, (hmem G h4 k hkG).2⟩
  ·subst h4
   refine ⟨(k3 k hkG).2, ?_⟩
   rcases (k3 k hkG).1 with h5 | h5
   ·exact (hmem _ (List.mem_of_getElem? hfi) k h5).2
   ·exact .inl (Nat.le_trans h.size h5)
theorem Hp.row (h : Hp C H w) {i : Nat} {v : Value} {t : TypeId} {sz n : Nat} {xs : List Value} (hi : H[i]? = some (.row v t sz n xs)) : w.ownsRow 0 t sz v n xs := by
 obtain ⟨F, h1, _, _⟩ := h.own
 obtain ⟨Fs, hl, _, hall⟩ := h1.parts
 have hlt : i < Fs.length := by rw [hl]; exact (List.getElem?_eq_some_iff.1 hi).1
 exact (hall i _ _ hi (List.getElem?_eq_getElem hlt)).2
section lists
variable {α : Type} {f : α → List Value} {sz : Nat}
theorem v6 (hf : ∀ x, (f x).length = sz) : ∀ l : List α, (l.flatMap f).length = l.length * sz
 | [] => by simp
 | x :: l => by rw [List.flatMap_cons, List.length_append, hf, v6 hf l, List.length_cons, Nat.add_mul]; omega
theorem aa0 (hf : ∀ x, (f x).length = sz) : ∀ (l : List α) (i : Nat), (l.flatMap f).drop (i * sz) = (l.drop i).flatMap f
 | l, 0 => by simp
 | [], i + 1 => by simp
 | x :: l, i + 1 => by
  rw [List.flatMap_cons, Nat.add_mul, Nat.one_mul, Nat.add_comm, ← List.drop_drop, List.drop_left' (hf x), aa0 hf l i]; rfl
theorem al3 [Inhabited α] (hf : ∀ x, (f x).length = sz) {l : List α} {i : Nat} (hi : i < l.length) : ((l.flatMap f).drop (i * sz)).take sz = f (l.getD i default) := by
 rw [aa0 hf, List.drop_eq_getElem_cons hi, List.flatMap_cons, List.take_left' (hf _), List.getD_eq_getElem?_getD, List.getElem?_eq_getElem hi]; rfl
theorem aer [Inhabited α] (hf : ∀ x, (f x).length = sz) {l : List α} {i o : Nat} {u : Value} (hi : i < l.length) (hu : (f (l.getD i default))[o]? = some u) : (l.flatMap f)[i * sz + o]? = some u := by
 have ho : o < sz := by rw [← hf (l.getD i default)]; exact (List.getElem?_eq_some_iff.1 hu).1
 rw [← al3 hf hi, List.getElem?_take, if_pos ho, List.getElem?_drop] at hu
 exact hu
theorem aj3 [Inhabited α] (hf : ∀ x, (f x).length = sz) {l : List α} {i : Nat} (hi : i < l.length) (x : α) : (l.flatMap f).take (i * sz) ++ f x ++ (l.flatMap f).drop (i * sz + sz) = (l.set i x).flatMap f := by
 have h1 : ∀ (l : List α) (i : Nat), (l.flatMap f).take (i * sz) = (l.take i).flatMap f := by
  intro l
  induction l with
  | nil => intro i; simp
  | cons y l ih =>
   intro i
   cases i with
   | zero => simp
   | succ i =>
    rw [List.flatMap_cons, Nat.add_mul, Nat.one_mul, Nat.add_comm, List.take_append, hf, List.take_of_length_le (by rw [hf]; omega), show sz + i * sz - sz = i * sz by omega, ih i]; rfl
 have h2 : i * sz + sz = (i + 1) * sz := by rw [Nat.add_mul, Nat.one_mul]
 rw [h1, h2, aa0 hf, List.set_eq_take_append_cons_drop, if_pos hi]
 simp [List.flatMap_append]
end lists
section ov
variable {x y : Operand} {t e' ty T : TypeId} {d : Option Tmp} {p : String} {e : Array Edge} {g : Option (Nat × Bool)} {v : Value} {k : IntKind} {sz n : Nat} {xs : List Value} {α : Type} [Inhabited α] {f : α → List Value} {l : List α}
theorem OV.lenRow (i : Nat) (hx : ev L x = some v) (hi : H[i]? = some (.row v T sz n xs)) (ht : slB P t e' sz = true) : OV P C L H ⟨d, .call ⟨.builtin .len, #[x], #[t]⟩, ty, p, e, g⟩ (.int .i64 (n : Int)) := fun a w hf hp => by
 rcases (hp.row hi).2 with ⟨rfl, rfl⟩ | ⟨b, cap, cur, rfl, _⟩
 ·exact OV.lenS hx ht a w hf hp
 ·exact OV.lenS hx ht a w hf hp
theorem OV.indexRow (i : Nat) {j : Int} (hx : ev L x = some v) (hy : ev L y = some (.int k j)) (hi : H[i]? = some (.row v T sz n xs)) (ht : slB P t e' sz = true) (hb : 0 ≤ j ∧ j < n) : OV P C L H ⟨d, .indexAddr t x y, ty, p, e, g⟩ (.pointer (some ⟨x9 v, j.toNat * sz, none⟩)) := fun a w hf hp => by
 rcases (hp.row hi).2 with ⟨rfl, rfl⟩ | ⟨b, cap, cur, rfl, _⟩
 ·exact absurd hb.2 (by omega)
 ·exact OV.indexSl hx hy ht hb (by simp) a w hf hp
theorem Hp.row_cells (hp : Hp C H w) {i : Nat} (hi : H[i]? = some (.row v T sz n xs)) (hne : xs ≠ []) : ∃ cur : List Value, w.heap[x9 v]? = some (.cells cur.toArray T (0, 0)) ∧ cur.take xs.length = xs := by
 obtain ⟨hl, hr⟩ := hp.row hi
 rcases hr with ⟨rfl, rfl⟩ | ⟨b, cap, cur, rfl, _, hb, _, _, _, ht⟩
 ·exact absurd (List.eq_nil_of_length_eq_zero (by simpa using hl)) hne
 ·exact ⟨cur.toList, by simpa [x9] using hb, by rw [hl]; exact ht⟩
theorem OV.loadRow1 (i : Nat) {off : Nat} {u : Value} (hx : ev L x = some (.pointer (some ⟨x9 v, off, none⟩))) (hi : H[i]? = some (.row v T sz n xs)) (hc : xs[off]? = some u) (ht : y6 P t = true) : OV P C L H ⟨d, .load t x, ty, p, e, g⟩ u := fun a w hf hp => by
 obtain ⟨cur, h1, h2⟩ := hp.row_cells hi (fun h => by subst h; simp at hc)
 have hlt : off < xs.length := (List.getElem?_eq_some_iff.1 hc).1
 have hcell : w.cell? ⟨x9 v, off, none⟩ = some u := by
  rw [← h2, List.getElem?_take, if_pos hlt] at hc
  simp [World.cell?, h1, hc]
 simp [execOp, hf.ev hx, Instr.loadAt, Instr.sureAddr, loadVar, x3 ht, hcell]
theorem OV.loadE1 (i : Nat) {j : Nat} {u : Value} (hx : ev L x = some (.pointer (some ⟨x9 v, j * 1, none⟩))) (hi : H[i]? = some (.row v T 1 l.length (l.flatMap f))) (hf' : ∀ x, (f x).length = 1) (hj : j < l.length) (hu : (f (l.getD j default))[0]? = some u) (ht : y6 P t = true) : OV P C L H ⟨d, .load t x, ty, p, e, g⟩ u :=
 OV.loadRow1 i hx hi (by have := aer hf' hj hu; simpa using this) ht
end ov
section st
variable {x y : Operand} {t ty T : TypeId} {p : String} {e : Array Edge} {g : Option (Nat × Bool)} {v u : Value} {sz n off : Nat} {xs vs xs' : List Value} {α : Type} [Inhabited α] {f : α → List Value} {l : List α}
theorem OpK.storeRow (i : Nat) (hx : ev L x = some (.pointer (some ⟨x9 v, off, none⟩))) (hy : ev L y = some u) (hi : H[i]? = some (.row v T sz n xs)) (hv : u.cells = vs.toArray) (hs : t7 P t vs.length = true) (hne : vs ≠ []) (hfit : off + vs.length ≤ xs.length) (h1 : vs.all (·.oneCell') = true)
  (he : xs.take off ++ vs ++ xs.drop (off + vs.length) = xs') : OpK P ⟨none, .store t x y, ty, p, e, g⟩ Q C L H L (H.set i (.row v T sz n xs')) := by
 intro K hK a w hf hp
 obtain ⟨hl, hr⟩ := hp.row hi
 have hvl : 0 < vs.length := by
  rcases vs with _ | _
  ·exact absurd rfl hne
  ·simp
 rcases hr with ⟨rfl, rfl⟩ | ⟨b, cap, cur, rfl, _, hb, hn, hm, hcs, htk⟩
 ·have : xs = [] := List.eq_nil_of_length_eq_zero (by simpa using hl)
  subst this; simp at hfit; exact absurd hfit.2 hne
 have hlc : n * sz ≤ cur.size := by rw [hcs]; exact Nat.mul_le_mul_right _ hn
 have hrun := run_storeCells_at (P := P) b off T vs 0 cur w hb (by omega) (by simpa using h1)
 simp only [Nat.add_zero] at hrun
 have hst : (storeVar t ⟨b, off, none⟩ u).run P w = .ok () (w.setRow b (cur.toList.take off ++ vs ++ cur.toList.drop (off + vs.length)).toArray) := by
  simp only [storeVar, Sem.run_bind, x8 hs, Result.andThen_ok, hv, List.size_toArray, ne_eq, not_true_eq_false, if_false, hrun]
 unfold Oper.wp
 simp only [x9] at hx
 simp only [execOp, hf.ev hx, hf.ev hy, Instr.storeAt, Instr.sureAddr, Sem.run_bind, Sem.run_pure, Result.andThen_ok, hst, Oper.upon]
 refine hK _ _ (hf.put0 _) (hp.swap hi rfl rfl rfl (by simp [World.setRow]) (fun F hF k _ hk => setRow_other w b k _ (fun e => hk (by rw [hF.1, e]; simp [Value.ownBlock]))) (fun F hF hFn => ⟨F, ⟨hF.1, ?_, .inr ⟨b, cap, _, rfl, Nat.zero_le _, x4 hb, hn, hm, ?_, ?_⟩⟩, hFn, fun k hk => ⟨.inl hk, ?_⟩⟩))
 ·rw [← he, List.length_append, List.length_append, List.length_take, List.length_drop]; omega
 ·simp only [List.size_toArray, List.length_append, List.length_take, List.length_drop, Array.length_toList]; omega
 ·have hcl : cur.toList.length = cur.size := Array.length_toList
  have hA : (cur.toList.take off ++ vs).length = off + vs.length := by rw [List.length_append, List.length_take]; omega
  rw [← he, ← htk, List.take_append, List.take_of_length_le (by omega), hA, List.take_take, Nat.min_eq_left (by omega), List.drop_take]
 ·rw [hF.1] at hk
  simp [Value.ownBlock] at hk
  subst hk
  simp only [World.setRow, Array.size_modify]; exact s9 hb
theorem WL.storeE (i : Nat) {j : Nat} {z : α} (hx : ev L x = some (.pointer (some ⟨x9 v, j * sz, none⟩))) (hy : ev L y = some u) (hi : H[i]? = some (.row v T sz l.length (l.flatMap f))) (hf' : ∀ x, (f x).length = sz) (h0 : 0 < sz) (hj : j < l.length) (hv : u.cells = (f z).toArray) (hs : t7 P t sz = true) (h1 : (f z).all (·.oneCell') = true)
  (hw : m3 ops L ⟨none, .store t x y, ty, p, e, g⟩ = some true) (h : WL P ops Q C L (H.set i (.row v T sz (l.set j z).length ((l.set j z).flatMap f))) rest) : WL P ops Q C L H (⟨none, .store t x y, ty, p, e, g⟩ :: rest) := by
 refine WL.op (OpK.storeRow (xs' := (l.set j z).flatMap f) i hx hy hi hv (by rw [hf']; exact hs) (fun e => by have := hf' z; rw [e, List.length_nil] at this; omega) ?_ h1 (by rw [hf']; exact aj3 hf' hj z)) hw (by rw [List.length_set] at h; exact h)
 rw [v6 hf', hf']
 have : (j + 1) * sz ≤ l.length * sz := Nat.mul_le_mul_right _ hj
 rw [Nat.add_mul, Nat.one_mul] at this; exact this
end st
def ag6 (P : Program) (e : TypeId) : Option (List Value × Nat × Nat) := match P.info? e with
 | some i => match i.zero with
  | some z => some (z.cells.toList, i.size, i.bytes)
  | none => none
 | none => none
theorem ad8 {e : TypeId} {zs : List Value} {sz bytes : Nat} (h : ag6 P e = some (zs, sz, bytes)) : ∃ i z, P.info? e = some i ∧ i.zero = some z ∧ z.cells = zs.toArray ∧ i.size = sz ∧ i.bytes = bytes := by
 unfold ag6 at h
 cases hq : P.info? e with
 | none => simp [hq] at h
 | some i =>
  cases hz : i.zero with
  | none => simp [hq, hz] at h
  | some z => simp [hq, hz] at h; exact ⟨i, z, rfl, hz, by rw [← h.1], h.2.1, h.2.2⟩
theorem afb {w : World} {t ty e : TypeId} {i : TypeInfo} {z : Value} {size bytes : Nat} (ht : P.underlying t = some (.slice e)) (hi : P.info? e = some i) (hz : i.zero = some z)
  (hsize : i.size = size) (hby : i.bytes = bytes) {v : Value} {n : Nat} {xs : List Value} (hown : w.ownsRow 0 e size v n xs)
  {a : Addr} {m c : Nat} {news : List Value} (hl : news.length = m * size) (hnews : ∀ j u, news[j]? = some u → w.cell? (a.add j) = some u) (h1 : ∀ u ∈ news, u.oneCell' = true)
  (h63 : n + m ≤ 9223372036854775807) (hbytes : ((n + m) + (n + m) / 4 + 192) * bytes ≤ 281474976710656) {v' : Value} {w' : World} (hr : (Builtin.append_ #[t, t] ty #[v, .slice (some a) m c]).run P w = .ok v' w') {k : Nat} (hk : v'.ownBlock = some k) : v.ownBlock = some k ∨ w.heap.size ≤ k := by
 subst hsize
 subst hby
 rcases hown.2 with ⟨rfl, rfl⟩ | ⟨g, cap, cur, rfl, _, hg, hnc, _, hcs, _⟩
 ·by_cases hm : m = 0
  ·subst hm
   have hn : news = [] := List.eq_nil_of_length_eq_zero (by simpa using hl)
   subst hn
   have : (Builtin.append_ #[t, t] ty #[.slice none 0 0, .slice (some a) 0 c]).run P w = .ok (.slice none 0 0) w := by
    simp [Builtin.append_, run_underlying ht, sizeOf, typeInfo, hi, Builtin.lenOf, Builtin.firstCells, loadCells, loadCellsFrom]
   rw [this] at hr
   cases hr
   simp [Value.ownBlock] at hk
  ·rw [run_append_nil (P := P) w t ty e i z ht hi hz a m c news hl hnews (by omega) (by omega) (by have hb := hbytes; simp only [Nat.zero_add] at hb; exact Nat.le_trans (Nat.mul_le_mul_right _ (by omega)) hb)] at hr
   cases hr
   simp [Value.ownBlock] at hk
   exact .inr (by omega)
 ·by_cases hroom : n + m ≤ cap
  ·have hfit : n * i.size + news.length ≤ cur.size := by rw [hl, hcs, ← Nat.add_mul]; exact Nat.mul_le_mul_right _ hroom
   rw [run_append_room (P := P) w t ty e i ht hi g n cap cur hg a m c news hl hnews h1 hroom hfit] at hr
   cases hr
   exact .inl hk
  ·have holds : ∀ j u, xs[j]? = some u → w.cell? ((⟨g, 0, none⟩ : Addr).add j) = some u := hown.cells (g := g) rfl
   rw [run_append_grow (P := P) w t ty e i z ht hi hz ⟨g, 0, none⟩ n cap xs hown.1 holds a m c news hl hnews (by omega) (by omega) (growslice_fits_wide (by omega) hbytes)] at hr
   cases hr
   simp [Value.ownBlock] at hk
   exact .inr (by omega)
section ap
variable {s x y z : Operand} {t e' ty T : TypeId} {p : String} {e : Array Edge} {v : Value} {k k' : IntKind} {sz bytes : Nat} {zs cs : List Value} {α : Type} {f : α → List Value} {l ms : List α} {d : Nat}
theorem WL.append (i j : Nat) {b : Nat} {m c : Nat} (hs : ev L s = some v) (hx : ev L x = some (.slice (some ⟨b, 0, none⟩) m c)) (hi : H[i]? = some (.row v e' sz l.length (l.flatMap f))) (hj : H[j]? = some (.blk b (.cells cs.toArray T (0, 0)))) (hc : cs = ms.flatMap f) (hm : ms.length = m)
  (hf' : ∀ x, (f x).length = sz) (h0 : 0 < sz) (h1 : cs.all (·.oneCell') = true) (ht : slB P t e' sz = true) (hinf : ag6 P e' = some (zs, sz, bytes)) (hzs : zs.length = sz) (hb : ((l.length + m) + (l.length + m) / 4 + 192) * bytes ≤ 281474976710656 ∧ l.length + m ≤ 9223372036854775807)
  (hw : m3 ops L ⟨some d, .call ⟨.builtin .append, #[s, x], #[t, t]⟩, ty, p, e, none⟩ = some true) (hn : Nat.blt d C.n = true)
  (h : ∀ v', WL P ops Q C ((d, v') :: L) (H.set i (.row v' e' sz (l ++ ms).length ((l ++ ms).flatMap f))) rest) : WL P ops Q C L H (⟨some d, .call ⟨.builtin .append, #[s, x], #[t, t]⟩, ty, p, e, none⟩ :: rest) := by
 intro a w hf hp
 obtain ⟨inf, z, q1, q2, q3, q4, q5⟩ := ad8 hinf
 have hblk := hp.blk hj
 subst hm
 have hlen : cs.length = ms.length * sz := by rw [hc, v6 hf']
 have hnews : ∀ q u, cs[q]? = some u → w.cell? ((⟨b, 0, none⟩ : Addr).add q) = some u := fun q u hq => by
  rw [Addr.add_mid, Nat.zero_add]; simp [World.cell?, hblk, hq]
 have hone : ∀ u ∈ cs, u.oneCell' = true := fun u hu => (List.all_eq_true.1 h1) u hu
 obtain ⟨v', w', hr, r1, r2, _⟩ := run_append_own_wide (P := P) w 0 t ty e' inf z sz bytes (q7 ht).1 q1 q2 q4 q5 (by rw [q3]; simpa using hzs) h0 v l.length (l.flatMap f) (hp.row hi) ⟨b, 0, none⟩ ms.length c cs hlen hnews hone (by simp only [maxLen]; omega) hb.1 (Nat.zero_le _)
 refine m6 (i8 hf hw) ?_
 unfold Oper.wp execOp
 simp only [resolve, invoke, builtin, Sem.run_bind, Sem.run_pure, Result.andThen_ok, List.map_toArray, List.map_cons, List.map_nil, hf.ev hs, hf.ev hx, hr]
 refine h v' _ w' (hf.put hn v') (hp.swap hi r2.os r2.tape r2.output r2.size (fun F hF k hk hkF => r2.block k hk (fun e => hkF (by rw [hF.1, ← e]; simp))) (fun F hF _ => ⟨v'.ownBlock.toList, ⟨rfl, by rw [List.length_append, List.flatMap_append, ← hc]; exact r1⟩, by cases v'.ownBlock <;> simp, fun k hk => ?_⟩))
 have hk' : v'.ownBlock = some k := by simpa using hk
 refine ⟨?_, (r1.lt k hk').2⟩
 rcases afb (q7 ht).1 q1 q2 q4 q5 (hp.row hi) hlen hnews hone hb.2 hb.1 hr hk' with h4 | h4
 ·exact .inl (by rw [hF.1, h4]; simp)
 ·exact .inr h4
end ap
end Go.Proofs.YtaaepdlajkdneaaDoor
namespace Go.Proofs.YtaaepdlajkdneaaDoor
open Go Go.RowKit
variable {P : Program} {ops : Array Oper} {Q : Exit → Act → World → Prop} {C : Cx} {L : Sl} {H : List HA} {rest : List Oper} {o : Oper} {w : World}
theorem Hp.nilRow (h : Hp C H w) (T : TypeId) (sz : Nat) {α : Type} (f : α → List Value) : Hp C (.row (.slice none 0 0) T sz ([] : List α).length (([] : List α).flatMap f) :: H) w := by
 obtain ⟨F, h1, h2, h3⟩ := h.own
 exact ⟨h.os, h.tape, h.output, h.size, h.keep, h.ro, F, ⟨[], F, rfl, ⟨rfl, World.ownsRow_nil w 0 T sz⟩, h1⟩, h2, h3⟩
theorem Hp.asRow (h : Hp C H w) {i b m : Nat} {T : TypeId} {cs : List Value} {α : Type} {f : α → List Value} {ms : List α} {sz : Nat} (hi : H[i]? = some (.blk b (.cells cs.toArray T (0, 0)))) (hc : cs = ms.flatMap f) (hm : ms.length = m) (hf' : ∀ x, (f x).length = sz) (hl : m ≤ 9223372036854775807) :
  Hp C (H.set i (.row (.slice (some ⟨b, 0, none⟩) m m) T sz ms.length (ms.flatMap f))) w := by
 subst hm
 refine h.swap hi rfl rfl rfl (Nat.le_refl _) (fun _ _ _ _ _ => rfl) (fun F hF hn => ⟨F, ⟨?_, ?_, ?_⟩, hn, fun k hk => ⟨.inl hk, ?_⟩⟩)
 ·rw [hF.1]; rfl
 ·exact v6 hf' ms
 ·exact .inr ⟨b, ms.length, cs.toArray, rfl, Nat.zero_le _, hF.2, Nat.le_refl _, by simp only [maxLen]; omega, by rw [List.size_toArray, hc, v6 hf'], by rw [← v6 hf' ms, ← hc]; simp⟩
 ·rw [hF.1] at hk; simp at hk; subst hk; exact s9 hF.2
theorem WL.nilRow (T : TypeId) (sz : Nat) {α : Type} (f : α → List Value) (h : WL P ops Q C L (.row (.slice none 0 0) T sz ([] : List α).length (([] : List α).flatMap f) :: H) rest) : WL P ops Q C L H rest := fun a w hf hp => h a w hf (hp.nilRow T sz f)
theorem WC.nilRow {c : Code} (T : TypeId) (sz : Nat) {α : Type} (f : α → List Value) (h : WC P c Q C L (.row (.slice none 0 0) T sz ([] : List α).length (([] : List α).flatMap f) :: H)) : WC P c Q C L H := fun a w hf hp => h a w hf (hp.nilRow T sz f)
theorem QX.nilRow {e : Exit} (T : TypeId) (sz : Nat) {α : Type} (f : α → List Value) (h : QX Q e C L (.row (.slice none 0 0) T sz ([] : List α).length (([] : List α).flatMap f) :: H)) : QX Q e C L H := fun a w hf hp => h a w hf (hp.nilRow T sz f)
theorem WL.asRow {m : Nat} {α : Type} {f : α → List Value} {ms : List α} {sz : Nat} {b : Nat} {T : TypeId} {cs : List Value} (i : Nat) (hi : H[i]? = some (.blk b (.cells cs.toArray T (0, 0)))) (hc : cs = ms.flatMap f) (hm : ms.length = m) (hf' : ∀ x, (f x).length = sz) (hl : Nat.ble m 9223372036854775807 = true)
  (h : WL P ops Q C L (H.set i (.row (.slice (some ⟨b, 0, none⟩) m m) T sz ms.length (ms.flatMap f))) rest) : WL P ops Q C L H rest := fun a w hf hp => h a w hf (hp.asRow hi hc hm hf' (Nat.le_of_ble_eq_true hl))
theorem WC.asRow {c : Code} {m : Nat} {α : Type} {f : α → List Value} {ms : List α} {sz : Nat} {b : Nat} {T : TypeId} {cs : List Value} (i : Nat) (hi : H[i]? = some (.blk b (.cells cs.toArray T (0, 0)))) (hc : cs = ms.flatMap f) (hm : ms.length = m) (hf' : ∀ x, (f x).length = sz) (hl : Nat.ble m 9223372036854775807 = true)
  (h : WC P c Q C L (H.set i (.row (.slice (some ⟨b, 0, none⟩) m m) T sz ms.length (ms.flatMap f)))) : WC P c Q C L H := fun a w hf hp => h a w hf (hp.asRow hi hc hm hf' (Nat.le_of_ble_eq_true hl))
section mk
variable {x y : Operand} {t e' ty : TypeId} {p : String} {e : Array Edge} {g : Option (Nat × Bool)} {k k' : IntKind} {sz bytes : Nat} {zs : List Value} {d : Nat} {α : Type} {f : α → List Value}
end mk
def adl (c : UInt8) : List Value := [.int .u8 (c.toNat : Int)]
theorem ac1 (c : UInt8) : (adl c).length = 1 := rfl
theorem OV.bytesRow {x : Operand} {t t' e' ty : TypeId} {d : Option Tmp} {p : String} {e : Array Edge} {g : Option (Nat × Bool)} {v : Value} {l : List UInt8} (i : Nat) (hx : ev L x = some v) (hi : H[i]? = some (.row v e' 1 l.length (l.flatMap adl))) (hs : slB P t e' 1 = true) (he : P.underlying e' = some (.int .u8)) (ht : af5 P t' = true) :
  OV P C L H ⟨d, .convert t t' x, ty, p, e, g⟩ (st l) := fun a w hf hp => by
 obtain ⟨hl, hr⟩ := hp.row hi
 rcases hr with ⟨rfl, h0⟩ | ⟨b, cap, cur, rfl, _, hb, hn, _, hcs, htk⟩
 ·have : l = [] := List.eq_nil_of_length_eq_zero h0
  subst this
  simp only [execOp, hf.ev hx, Sem.run_bind, run_convert_bytes_nil w t e' (q7 hs).1 he 0 0 t' (x5 ht), Result.andThen_ok, Sem.run_pure]
  rfl
 ·have hfl : l.flatMap adl = l.map (fun c => Value.int .u8 (c.toNat : Int)) := by
   clear hx hi hl hb hn hcs htk
   induction l with
   | nil => rfl
   | cons c l ih => rw [List.flatMap_cons, ih]; rfl
  have hc : ∀ j (hj : j < l.length), w.cell? ((⟨b, 0, none⟩ : Addr).add j) = some (.int .u8 (l[j].toNat : Int)) := fun j hj => by
   rw [Addr.add_mid, Nat.zero_add]
   have h1 : cur.toList[j]? = some (.int .u8 (l[j].toNat : Int)) := by
    have h2 : (cur.toList.take (l.length * 1))[j]? = some (.int .u8 (l[j].toNat : Int)) := by rw [htk, hfl]; simp [hj]
    rw [List.getElem?_take, if_pos (by omega)] at h2
    exact h2
   have h3 : cur[j]? = some (.int .u8 (l[j].toNat : Int)) := by simpa using h1
   simp [World.cell?, hb, h3]
  have hr := run_convert_bytes_back (P := P) w t t' e' ⟨b, 0, none⟩ cap l (q7 hs).1 he (x5 ht) hc
  simp only [execOp, hf.ev hx, Sem.run_bind, hr, Result.andThen_ok, Sem.run_pure]
end Go.Proofs.YtaaepdlajkdneaaDoor
namespace Go.Proofs.YtaaepdlajkdneaaDoor
open Go Go.RowKit
variable {P : Program} {C : Cx} {L : Sl} {H : List HA}
def m7 (P : Program) (ft : TypeId) (a b : Value) (r : Bool) : Prop := ∀ d w, (Op.equalIn (d + 1) ft a b).run P w = .ok r w
theorem m7.int {ft : TypeId} {k k' : IntKind} {a b : Int} (h : P.underlying ft = some (.int k')) : m7 P ft (.int k a) (.int k b) (decide (a = b)) := fun d w => by
 rw [run_equalIn_int w d ft k k' a b h]
 congr 1
theorem m7.bool {ft : TypeId} {a b : Bool} (h : P.underlying ft = some .bool) : m7 P ft (.bool a) (.bool b) (a == b) := fun d w => run_equalIn_bool w d ft a b h
theorem m7.str {ft : TypeId} {a b : List UInt8} (h : P.underlying ft = some .string) : m7 P ft (st a) (st b) (decide (a = b)) := fun d w => by
 rw [run_equalIn_string w d ft _ _ h]
 congr 1; rw [ByteArray.toList_eq, ByteArray.toList_eq, Bool.eq_iff_iff]; simp
def aig (P : Program) (xs ys : List Value) : List Field → List Bool → Prop
 | [], [] => True
 | f :: fs, r :: rs => (f.name == "_") = false ∧ y6 P f.type = true ∧ (∃ a b, xs[f.offset]? = some a ∧ ys[f.offset]? = some b ∧ m7 P f.type a b r) ∧ aig P xs ys fs rs
 | _, _ => False
def o8 : List Bool → Bool
 | [] => true
 | [r] => r
 | r :: rs => r && o8 rs
theorem aha (r : Bool) (rs : List Bool) : o8 (r :: rs) = (r && o8 rs) := by
 cases rs <;> simp [o8]
theorem adz {xs ys : List Value} {d : Nat} {w : World} : ∀ {fs : List Field} {rs : List Bool}, aig P xs ys fs rs → (Op.eqFields (d + 1) xs.toArray ys.toArray fs).run P w = .ok (o8 rs) w
 | [], [], _ => by simp [Op.eqFields, o8]
 | f :: fs, r :: rs, ⟨hn, hs, ⟨a, b, ha, hb, hr⟩, h⟩ => by
  have ih := adz (d := d) (w := w) h
  have hn' : ¬ f.name = "_" := by simpa using hn
  have p1 : (part f.type xs.toArray f.offset).run P w = .ok a w := by simp [part, x3 hs, ha]
  have p2 : (part f.type ys.toArray f.offset).run P w = .ok b w := by simp [part, x3 hs, hb]
  rw [aha]
  simp only [Op.eqFields, hn', ne_eq, not_false_eq_true, if_true, Sem.run_bind, p1, p2, Result.andThen_ok, hr d w]
  cases r
  ·simp
  ·simpa using ih
 | [], _ :: _, h => h.elim
 | _ :: _, [], h => h.elim
theorem afp {t : TypeId} {xs ys : List Value} {fs : Array Field} {rs : List Bool} (hu : P.underlying t = some (.struct fs)) (hp : P.stoodInHeld t = false) (hF : aig P xs ys fs.toList rs) (w : World) : (Op.equalIn 10000 t (.agg xs.toArray) (.agg ys.toArray)).run P w = .ok (o8 rs) w := by
 have hfo : P.fieldsOf t = fs := by simp [Program.fieldsOf, hu]
 rw [run_equalIn_struct w 9999 t _ _ (by rw [hfo]; exact hu) hp, hfo]
 exact adz hF
section ov
variable {x y : Operand} {t t' ty : TypeId} {d : Option Tmp} {p : String} {e : Array Edge} {g : Option (Nat × Bool)} {xs ys : List Value} {fs : Array Field} {rs : List Bool}
theorem OV.eqlF (hx : ev L x = some (.agg xs.toArray)) (hy : ev L y = some (.agg ys.toArray)) (hu : P.underlying t = some (.struct fs)) (hp : P.stoodInHeld t = false) (hm : P.eqGuardType P.depth t = false) (hF : aig P xs ys fs.toList rs) :
  OV P C L H ⟨d, .binOp .eql t x y t', ty, p, e, g⟩ (.bool (o8 rs)) := fun a w hf _ => by
 simp only [execOp, hf.ev hx, hf.ev hy, Sem.run_bind, run_eqGuard_agg w .eql t x y _ _ hm, Result.andThen_ok, run_eql_struct, afp hu hp hF, Sem.run_pure]
end ov
end Go.Proofs.YtaaepdlajkdneaaDoor
namespace Go.Proofs.YtaaepdlajkdneaaDoor
open Go Go.RowKit
variable {P : Program} {ops : Array Oper} {Q : Exit → Act → World → Prop} {C : Cx} {L : Sl} {H : List HA} {rest : List Oper} {w : World}
def ail (v : Value) : Nat := match v with
 | .slice (some a) _ _ => a.off
 | _ => 0
def w8 (v : Value) (R : List (Nat × Obj)) (n : Nat) (xs : List Value) : Prop :=
 (n = 0 ∧ xs = [] ∧ (∃ a c, v = .slice a 0 c) ∧ R = []) ∨
 ∃ b off cap, ∃ cs : List Value, ∃ T fr, v = .slice (some ⟨b, off, none⟩) n cap ∧ R = [(b, .cells cs.toArray T fr)] ∧ (cs.drop off).take xs.length = xs
def LIn (C : Cx) (v : Value) (n : Nat) (xs : List Value) : Prop := ∃ R, w8 v R n xs ∧ ∀ p ∈ R, p ∈ C.R
theorem LIn.mk {v : Value} {R : List (Nat × Obj)} {n : Nat} {xs : List Value} (h : w8 v R n xs) (hR : ∀ p ∈ R, p ∈ C.R) : LIn C v n xs := ⟨R, h, hR⟩
section ov
variable {x y : Operand} {t e' ty : TypeId} {d : Option Tmp} {p : String} {e : Array Edge} {g : Option (Nat × Bool)} {v : Value} {k : IntKind} {sz n : Nat} {xs : List Value} {α : Type} [Inhabited α] {f : α → List Value} {l : List α}
theorem OV.lenIn (h : LIn C v n xs) (hx : ev L x = some v) (ht : slB P t e' sz = true) : OV P C L H ⟨d, .call ⟨.builtin .len, #[x], #[t]⟩, ty, p, e, g⟩ (.int .i64 (n : Int)) := by
 obtain ⟨R, hi, _⟩ := h
 rcases hi with ⟨rfl, _, ⟨a, c, rfl⟩, _⟩ | ⟨b, off, cap, cs, T, fr, rfl, _⟩ <;> exact OV.lenS hx ht
theorem OV.indexIn (h : LIn C v n xs) {j : Int} (hx : ev L x = some v) (hy : ev L y = some (.int k j)) (ht : slB P t e' sz = true) (hb : 0 ≤ j ∧ j < n) : OV P C L H ⟨d, .indexAddr t x y, ty, p, e, g⟩ (.pointer (some ⟨x9 v, ail v + j.toNat * sz, none⟩)) := by
 obtain ⟨R, hi, _⟩ := h
 rcases hi with ⟨rfl, _⟩ | ⟨b, off, cap, cs, T, fr, rfl, _⟩
 ·omega
 ·exact OV.indexSl hx hy ht hb rfl
theorem LIn.at (h : LIn C v n xs) (hne : xs ≠ []) : ∃ b off, ∃ cs : List Value, ∃ T fr, x9 v = b ∧ ail v = off ∧ At C H b (.cells cs.toArray T fr) ∧ (cs.drop off).take xs.length = xs := by
 obtain ⟨R, hi, hR⟩ := h
 rcases hi with ⟨_, h0, _⟩ | ⟨b, off, cap, cs, T, fr, rfl, rfl, hc⟩
 ·exact absurd h0 hne
 ·exact ⟨b, off, cs, T, fr, rfl, rfl, At.old (hR _ (by simp)), hc⟩
theorem OV.loadIn1 (h : LIn C v n xs) {off : Nat} {u : Value} (hx : ev L x = some (.pointer (some ⟨x9 v, ail v + off, none⟩))) (hc : xs[off]? = some u) (ht : y6 P t = true) : OV P C L H ⟨d, .load t x, ty, p, e, g⟩ u := by
 obtain ⟨b, o, cs, T, fr, hb, ho, hA, hcs⟩ := h.at (H := H) (fun h => by subst h; simp at hc)
 rw [hb, ho] at hx
 refine OV.load hx hA ?_ ht
 have hlt : off < xs.length := (List.getElem?_eq_some_iff.1 hc).1
 rw [← hcs, List.getElem?_take, if_pos hlt, List.getElem?_drop] at hc
 exact hc
theorem OV.loadInE1 (h : LIn C v l.length (l.flatMap f)) {j : Nat} {u : Value} (hx : ev L x = some (.pointer (some ⟨x9 v, ail v + j * 1, none⟩))) (hf' : ∀ x, (f x).length = 1) (hj : j < l.length) (hu : (f (l.getD j default))[0]? = some u) (ht : y6 P t = true) : OV P C L H ⟨d, .load t x, ty, p, e, g⟩ u :=
 OV.loadIn1 h hx (by have := aer hf' hj hu; simpa using this) ht
end ov
def LOk (C : Cx) (Rest : List HA) (v : Value) (n : Nat) (xs : List Value) : Prop := ∀ w F, Own w Rest F → ∃ R, w8 v R n xs ∧ ∀ p ∈ R, (w.heap[p.1]? = some p.2 ∧ p.1 ∈ F) ∨ p ∈ C.R
theorem LOk.inn {Rest : List HA} {v : Value} {n : Nat} {xs : List Value} (h : LIn C v n xs) : LOk C Rest v n xs := fun _ _ _ => by
 obtain ⟨R, h1, h2⟩ := h
 exact ⟨R, h1, fun p hp => .inr (h2 p hp)⟩
theorem Own.mem_row {w : World} : ∀ {H : List HA} {F : List Nat}, Own w H F → ∀ {i : Nat} {v : Value} {T sz n : Nat} {xs : List Value}, H[i]? = some (.row v T sz n xs) → w.ownsRow 0 T sz v n xs ∧ ∀ k, v.ownBlock = some k → k ∈ F
 | [], _, _, i, _, _, _, _, _, h => by simp at h
 | x :: H, F, ⟨F1, F2, hF, h1, h2⟩, i, v, T, sz, n, xs, h => by
  cases i with
  | zero =>
   simp at h
   subst h
   exact ⟨h1.2, fun k hk => by rw [hF, h1.1, hk]; simp⟩
  | succ i =>
   have := h2.mem_row (i := i) (by simpa using h)
   exact ⟨this.1, fun k hk => by rw [hF]; exact List.mem_append.2 (.inr (this.2 k hk))⟩
def am5 (v : Value) (m : Nat) : Value := match v with
 | .slice a _ c => .slice a m c
 | v => v
theorem LOk.pre {Rest : List HA} {v : Value} {T sz n m : Nat} {xs : List Value} (i : Nat) (hi : Rest[i]? = some (.row v T sz n xs)) (hm : m ≤ n) : LOk C Rest (am5 v m) m (xs.take (m * sz)) := fun w F hO => by
 obtain ⟨⟨hl, hr⟩, hmem⟩ := hO.mem_row hi
 rcases hr with ⟨rfl, rfl⟩ | ⟨b, cap, cur, rfl, _, hb, hn, hcm, hcs, htk⟩
 ·have h0 : m = 0 := by omega
  subst h0
  exact ⟨[], .inl ⟨rfl, by simp, ⟨none, 0, rfl⟩, rfl⟩, fun p hp => by cases hp⟩
 ·refine ⟨[(b, .cells cur T (0, 0))], .inr ⟨b, 0, cap, cur.toList, T, (0, 0), rfl, by simp, ?_⟩, fun p hp => ?_⟩
  ·rw [List.drop_zero, ← htk, List.take_take, List.length_take, Array.length_toList]
   have h1 : m * sz ≤ n * sz := Nat.mul_le_mul_right _ hm
   have h2 : n * sz ≤ cur.size := by rw [hcs]; exact Nat.mul_le_mul_right _ hn
   rw [Nat.min_eq_left h1, Nat.min_eq_left (by omega)]
  ·rw [List.mem_singleton.1 hp]
   exact .inl ⟨hb, hmem b rfl⟩
theorem LOk.row {Rest : List HA} {v : Value} {T sz n : Nat} {xs : List Value} (i : Nat) (hi : Rest[i]? = some (.row v T sz n xs)) : LOk C Rest v n xs := fun w F hO => by
 obtain ⟨⟨hl, hr⟩, _⟩ := hO.mem_row hi
 obtain ⟨R, h1, h2⟩ := LOk.pre (C := C) i hi (Nat.le_refl n) w F hO
 have : am5 v n = v := by rcases hr with ⟨rfl, rfl⟩ | ⟨b, cap, cur, rfl, _⟩ <;> rfl
 rw [this, ← hl, List.take_length] at h1
 exact ⟨R, h1, h2⟩
theorem ahf {f : FuncId} {args : List Value} {R : List (Nat × Obj)} {A Rest : List HA} {S : Out → Prop} {w : World} (hc : j8 P f args R A S) {F1 F2 : List Nat} (hA : Own w A F1) (hB : Own w Rest F2) (h2 : (F1 ++ F2).Nodup)
  (h3 : ∀ k ∈ F1 ++ F2, k < w.heap.size ∧ (C.w0.heap.size ≤ k ∨ k ∈ C.M)) (hp : Hp C (A ++ Rest) w) (hR : ∀ p ∈ R, (w.heap[p.1]? = some p.2 ∧ p.1 ∈ F2) ∨ p ∈ C.R) :
  Calls P f args.toArray w (fun e w' => ∃ H', ac2 S e H' ∧ Hp C (H' ++ Rest) w') := by
 have hn := List.nodup_append.1 h2
 refine (hc w F1 hA hn.1 (fun k hk => (h3 k (List.mem_append.2 (.inl hk))).1) ?_).mono ?_
 ·intro q hq
  rcases hR q hq with ⟨hi, hm⟩ | hm
  ·exact ⟨hi, fun hk => hn.2.2 q.1 hk q.1 hm rfl⟩
  ·refine ⟨hp.old hm, fun hk => ?_⟩
   have hro := hp.ro q hm
   have hlt := s9 hro.1
   rcases (h3 q.1 (List.mem_append.2 (.inl hk))).2 with h4 | h4
   ·omega
   ·exact hro.2 h4
 ·rintro e w' ⟨H', hS, hh⟩
  exact ⟨H', hS, hp.call hB h2 h3 hh⟩
theorem ROk.mem {Rest : List HA} {w : World} {F : List Nat} (hO : Own w Rest F) (hh : ∀ (i : Nat) (x : HA), Rest[i]? = some x → ∃ f, x.at w f) {R : List (Nat × Obj)} (h : ROk C Rest R) : ∀ p ∈ R, (w.heap[p.1]? = some p.2 ∧ p.1 ∈ F) ∨ p ∈ C.R := fun p hp => by
 rcases h.all p hp with ⟨i, hi⟩ | hm
 ·obtain ⟨f, hf⟩ := hh i _ hi
  exact .inl ⟨hf.2, hO.mem_blk hi⟩
 ·exact .inr hm
theorem Own.each {w : World} : ∀ {H : List HA} {F : List Nat}, Own w H F → ∀ (i : Nat) (x : HA), H[i]? = some x → ∃ f, x.at w f
 | [], _, _, i, x, h => by simp at h
 | y :: H, _, ⟨F1, F2, _, h1, h2⟩, i, x, h => by
  cases i with
  | zero => simp at h; subst h; exact ⟨F1, h1⟩
  | succ i => exact h2.each i x (by simpa using h)
section call
variable {f : FuncId} {xs : List Operand} {ats : Array TypeId} {d : Nat} {ty : TypeId} {p : String} {e : Array Edge} {g : Option (Nat × Bool)} {vs : List Value} {R0 : List (Nat × Obj)} {A Rest : List HA} {S : Out → Prop} {v : Value} {A' : List HA} {v1 v2 : Value} {n1 n2 : Nat} {xs1 xs2 : List Value}
theorem WL.callS1 (he : p9 P f = true) (hx : evs L xs = some vs) (hc : ∀ R1, w8 v1 R1 n1 xs1 → j8 P f vs (R1 ++ R0) A S) (hH : H = A ++ Rest) (hL : LOk C Rest v1 n1 xs1) (hR : ROk C Rest R0) (hw : m3 ops L ⟨some d, .call ⟨.value (.func f), xs.toArray, ats⟩, ty, p, e, g⟩ = some true) (hn : Nat.blt d C.n = true)
  (h : ∀ r H', S (.ret r H') → WL P ops Q C ((d, r) :: L) (H' ++ Rest) rest) (hpan : ∀ c H', S (.pan c H') → QX Q (.panic c) C L (H' ++ Rest)) : WL P ops Q C L H (⟨some d, .call ⟨.value (.func f), xs.toArray, ats⟩, ty, p, e, g⟩ :: rest) := by
 intro a w hf hp
 subst hH
 refine m6 (i8 hf hw) ?_
 unfold Oper.wp
 rw [w6 he hf hx]
 simp only [Oper.upon]
 obtain ⟨F, h1, h2, h3⟩ := hp.own
 obtain ⟨F1, F2, rfl, hA, hB⟩ := h1.split
 obtain ⟨R1, k1, k2⟩ := hL w F2 hB
 refine (ahf (hc R1 k1) hA hB h2 h3 hp (fun p hp => ?_)).mono ?_
 ·rcases List.mem_append.1 hp with hp | hp
  ·exact k2 p hp
  ·exact hR.mem hB hB.each p hp
 rintro en w' ⟨H', hS, hh⟩
 rcases hS with ⟨r, rfl, hS⟩ | ⟨c, rfl, hS⟩
 ·exact h r H' hS _ _ (hf.put hn r) hh
 ·exact hpan c H' hS _ _ hf hh
theorem WL.callS2 (he : p9 P f = true) (hx : evs L xs = some vs) (hc : ∀ R1, w8 v1 R1 n1 xs1 → ∀ R2, w8 v2 R2 n2 xs2 → j8 P f vs (R1 ++ (R2 ++ R0)) A S) (hH : H = A ++ Rest) (hL : LOk C Rest v1 n1 xs1) (hL2 : LOk C Rest v2 n2 xs2) (hR : ROk C Rest R0) (hw : m3 ops L ⟨some d, .call ⟨.value (.func f), xs.toArray, ats⟩, ty, p, e, g⟩ = some true) (hn : Nat.blt d C.n = true)
  (h : ∀ r H', S (.ret r H') → WL P ops Q C ((d, r) :: L) (H' ++ Rest) rest) (hpan : ∀ c H', S (.pan c H') → QX Q (.panic c) C L (H' ++ Rest)) : WL P ops Q C L H (⟨some d, .call ⟨.value (.func f), xs.toArray, ats⟩, ty, p, e, g⟩ :: rest) := by
 intro a w hf hp
 subst hH
 refine m6 (i8 hf hw) ?_
 unfold Oper.wp
 rw [w6 he hf hx]
 simp only [Oper.upon]
 obtain ⟨F, h1, h2, h3⟩ := hp.own
 obtain ⟨F1, F2, rfl, hA, hB⟩ := h1.split
 obtain ⟨R1, k1, k2⟩ := hL w F2 hB
 obtain ⟨R2, j1, j2⟩ := hL2 w F2 hB
 refine (ahf (hc R1 k1 R2 j1) hA hB h2 h3 hp (fun p hp => ?_)).mono ?_
 ·rcases List.mem_append.1 hp with hp | hp
  ·exact k2 p hp
  ·rcases List.mem_append.1 hp with hp | hp
   ·exact j2 p hp
   ·exact hR.mem hB hB.each p hp
 rintro en w' ⟨H', hS, hh⟩
 rcases hS with ⟨r, rfl, hS⟩ | ⟨c, rfl, hS⟩
 ·exact h r H' hS _ _ (hf.put hn r) hh
 ·exact hpan c H' hS _ _ hf hh
theorem WL.call1 (he : p9 P f = true) (hx : evs L xs = some vs) (hc : ∀ R1, w8 v1 R1 n1 xs1 → j8 P f vs (R1 ++ R0) A (Ret v A')) (hH : H = A ++ Rest) (hL : LOk C Rest v1 n1 xs1) (hR : ROk C Rest R0) (hw : m3 ops L ⟨some d, .call ⟨.value (.func f), xs.toArray, ats⟩, ty, p, e, g⟩ = some true) (hn : Nat.blt d C.n = true)
  (h : WL P ops Q C ((d, v) :: L) (A' ++ Rest) rest) : WL P ops Q C L H (⟨some d, .call ⟨.value (.func f), xs.toArray, ats⟩, ty, p, e, g⟩ :: rest) :=
 WL.callS1 he hx hc hH hL hR hw hn (fun r H' hS => by cases hS; exact h) (fun c H' hS => by cases hS)
theorem WL.call2 (he : p9 P f = true) (hx : evs L xs = some vs) (hc : ∀ R1, w8 v1 R1 n1 xs1 → ∀ R2, w8 v2 R2 n2 xs2 → j8 P f vs (R1 ++ (R2 ++ R0)) A (Ret v A')) (hH : H = A ++ Rest) (hL : LOk C Rest v1 n1 xs1) (hL2 : LOk C Rest v2 n2 xs2) (hR : ROk C Rest R0) (hw : m3 ops L ⟨some d, .call ⟨.value (.func f), xs.toArray, ats⟩, ty, p, e, g⟩ = some true) (hn : Nat.blt d C.n = true)
  (h : WL P ops Q C ((d, v) :: L) (A' ++ Rest) rest) : WL P ops Q C L H (⟨some d, .call ⟨.value (.func f), xs.toArray, ats⟩, ty, p, e, g⟩ :: rest) :=
 WL.callS2 he hx hc hH hL hL2 hR hw hn (fun r H' hS => by cases hS; exact h) (fun c H' hS => by cases hS)
end call
theorem ali {P : Program} {t e : TypeId} (h : P.underlying t = some (.slice e)) : P.underlying t = some (.slice (P.elem t)) := by
 have : P.elem t = e := by simp [Program.elem, h]
 rw [this]; exact h
def aib (v : Value) (sz lo hi : Nat) : Value := match v with
 | .slice a _ c => .slice (if c = lo then a else a.map (·.add (lo * sz))) (hi - lo) (c - lo)
 | v => v
theorem LOk.sub {Rest : List HA} {v : Value} {T sz lo hi : Nat} {α : Type} {f : α → List Value} {l : List α} (i : Nat) (hi' : Rest[i]? = some (.row v T sz l.length (l.flatMap f))) (hf' : ∀ x, (f x).length = sz) (hb : lo ≤ hi ∧ hi ≤ l.length) : LOk C Rest (aib v sz lo hi) ((l.drop lo).take (hi - lo)).length (((l.drop lo).take (hi - lo)).flatMap f) := fun w F hO => by
 obtain ⟨⟨hl, hr⟩, hmem⟩ := hO.mem_row hi'
 have hlen : ((l.drop lo).take (hi - lo)).length = hi - lo := by rw [List.length_take, List.length_drop]; omega
 rw [hlen]
 rcases hr with ⟨rfl, h0⟩ | ⟨b, cap, cur, rfl, _, hb', hn, hcm, hcs, htk⟩
 ·have hlo : hi - lo = 0 := by omega
  have : (l.drop lo).take (hi - lo) = [] := by rw [hlo]; rfl
  rw [this, hlo]
  refine ⟨[], .inl ⟨rfl, rfl, ⟨if 0 = lo then none else none, 0 - lo, ?_⟩, rfl⟩, fun p hp => by cases hp⟩
  dsimp only [aib]; rw [hlo]; rfl
 ·by_cases hz : hi - lo = 0
  ·have : (l.drop lo).take (hi - lo) = [] := by rw [hz]; rfl
   rw [this, hz]
   refine ⟨[], .inl ⟨rfl, rfl, ⟨if cap = lo then some ⟨b, 0, none⟩ else some ((⟨b, 0, none⟩ : Addr).add (lo * sz)), cap - lo, ?_⟩, rfl⟩, fun p hp => by cases hp⟩
   dsimp only [aib]; rw [hz]; rfl
  ·refine ⟨[(b, .cells cur T (0, 0))], .inr ⟨b, lo * sz, cap - lo, cur.toList, T, (0, 0), ?_, by simp, ?_⟩, fun p hp => ?_⟩
   ·dsimp only [aib]
    rw [if_neg (by omega)]
    simp [Addr.add_mid]
   ·rw [v6 hf', hlen]
    have h1 : ((cur.toList.drop (lo * sz)).take ((hi - lo) * sz)) = (((cur.toList.take (l.length * sz)).drop (lo * sz)).take ((hi - lo) * sz)) := by
     rw [List.drop_take, List.take_take, Nat.min_eq_left]
     rw [← Nat.sub_mul]
     exact Nat.mul_le_mul_right _ (by omega)
    rw [h1, htk, aa0 hf']
    have h2 : ∀ (m : List α) (q : Nat), q ≤ m.length → (m.flatMap f).take (q * sz) = (m.take q).flatMap f := fun m q hq => by
     have h3 : m.flatMap f = (m.take q).flatMap f ++ (m.drop q).flatMap f := by rw [← List.flatMap_append, List.take_append_drop]
     rw [h3, List.take_left' (by rw [v6 hf', List.length_take, Nat.min_eq_left hq])]
    exact h2 _ _ (by rw [List.length_drop]; omega)
   ·rw [List.mem_singleton.1 hp]
    exact .inl ⟨hb', hmem b rfl⟩
end Go.Proofs.YtaaepdlajkdneaaDoor
namespace Go.Proofs.YtaaepdlajkdneaaDoor
open Go Go.RowKit
variable {P : Program} {ops : Array Oper} {Q : Exit → Act → World → Prop} {C : Cx} {L : Sl} {H : List HA} {rest : List Oper} {o : Oper}
section iface
variable {x : Operand} {t t' t2 ty : TypeId} {d : Option Tmp} {p : String} {e : Array Edge} {g : Option (Nat × Bool)} {v z : Value}
def aj4 (P : Program) (t : TypeId) : Option Value := (P.info? t).bind (·.zero)
theorem ajc (h : aj4 P t = some z) (w : World) : (zeroValue t).run P w = .ok z w := by
 unfold aj4 at h
 cases hq : P.info? t with
 | none => simp [hq] at h
 | some i =>
  simp only [hq, Option.bind_some] at h
  simp [zeroValue, typeInfo, hq, h]
end iface
def EN (P : Program) (C : Cx) (L : Sl) (H : List HA) (o : Oper) (f : FuncId) (vs : List Value) : Prop := ∀ a w, Fr C L a → Hp C H w → (execOp a.eval o).run P w = .ok (.enter f vs.toArray) w
section call
variable {f : FuncId} {xs : List Operand} {ats : Array TypeId} {d : Nat} {ty : TypeId} {p : String} {e : Array Edge} {g : Option (Nat × Bool)} {vs : List Value} {R : List (Nat × Obj)} {A Rest : List HA} {S : Out → Prop} {v : Value} {A' : List HA}
theorem WL.enterS (hE : EN P C L H o f vs) (hd : o.dst = some d) (hc : j8 P f vs R A S) (hH : H = A ++ Rest) (hR : ROk C Rest R) (hw : m3 ops L o = some true) (hn : Nat.blt d C.n = true)
  (h : ∀ r H', S (.ret r H') → WL P ops Q C ((d, r) :: L) (H' ++ Rest) rest) (hpan : ∀ c H', S (.pan c H') → QX Q (.panic c) C L (H' ++ Rest)) : WL P ops Q C L H (o :: rest) := by
 intro a w hf hp
 subst hH
 refine m6 (i8 hf hw) ?_
 unfold Oper.wp
 rw [hE a w hf hp]
 simp only [Oper.upon]
 refine (af2 hc hp hR).mono ?_
 rintro en w' ⟨H', hS, hh⟩
 rcases hS with ⟨r, rfl, hS⟩ | ⟨c, rfl, hS⟩
 ·rw [hd]; exact h r H' hS _ _ (hf.put hn r) hh
 ·exact hpan c H' hS _ _ hf hh
theorem WL.enter (hE : EN P C L H o f vs) (hd : o.dst = some d) (hc : j8 P f vs R A (Ret v A')) (hH : H = A ++ Rest) (hR : ROk C Rest R) (hw : m3 ops L o = some true) (hn : Nat.blt d C.n = true)
  (h : WL P ops Q C ((d, v) :: L) (A' ++ Rest) rest) : WL P ops Q C L H (o :: rest) :=
 WL.enterS hE hd hc hH hR hw hn (fun r H' hS => by cases hS; exact h) (fun c H' hS => by cases hS)
def ama (P : Program) (T : TypeId) (name : String) : Option FuncId := ((P.info? T).bind fun i => i.methods.find? (·.name == name)).bind fun m => if m.path.isEmpty then m.func.bind fun q => if q.2 then none else some q.1 else none
def ak7 (P : Program) (t : TypeId) : Bool := match P.underlying t with | some (.pointer _) => false | some _ => true | none => false
theorem EN.invoke {x : Operand} {T : TypeId} {name : String} {do_ : Option Tmp} (hx : ev L x = some (.iface T v)) (hm : ama P T name = some f) (hu : ak7 P T = true) (he : p9 P f = true) (hxs : evs L xs = some vs) :
  EN P C L H ⟨do_, .call ⟨.invoke x name, xs.toArray, ats⟩, ty, p, e, g⟩ f (v :: vs) := fun a w hf _ => by
 unfold ama at hm
 cases hi : P.info? T with
 | none => simp [hi] at hm
 | some i =>
  simp only [hi, Option.bind_some] at hm
  cases hq : i.methods.find? (·.name == name) with
  | none => simp [hq] at hm
  | some m =>
   simp only [hq, Option.bind_some] at hm
   split at hm
   ·rename_i hpath
    cases hfn : m.func with
    | none => simp [hfn] at hm
    | some q =>
     obtain ⟨f', pr⟩ := q
     simp only [hfn, Option.bind_some] at hm
     cases pr with
     | true => simp at hm
     | false =>
      simp only [Bool.false_eq_true, if_false, Option.some.injEq] at hm
      subst hm
      unfold ak7 at hu
      cases hT : P.underlying T with
      | none => rw [hT] at hu; cases hu
      | some dd =>
       have hrec : ∀ s, (receiverAt T (.val v) false s).run P w = .ok v w := fun s => by
        unfold receiverAt
        rw [Sem.run_bind, p7 hT]
        rw [hT] at hu
        cases dd <;> first | (simp at hu; done) | simp [Place.get]
       have hpl : m.path.toList = [] := by simpa using hpath
       have hmeth : (method ((P.types.size + Made.depth - 1) + 1) T v name).run P w = .ok (f', v) w := by
        unfold method
        simp [typeInfo, hi, hq, hpl, follow, hfn, hrec]
       have hsz : (P.types.size + Made.depth - 1) + 1 = P.types.size + Made.depth := by
        have : 0 < Made.depth := by decide
        omega
       rw [hsz] at hmeth
       have hmap : xs.toArray.map a.eval = vs.toArray := by rw [List.map_toArray, abo hf hxs]
       simp only [execOp, resolve, hf.ev hx, hmap, Sem.run_bind, Sem.run_pure, Result.andThen_ok, Go.invoke]
       have hen := abu he (v :: vs).toArray w
       have h0 : (#[Value.iface T v] ++ vs.toArray)[0]? = some (Value.iface T v) := by simp
       have h1 : #[v] ++ (#[Value.iface T v] ++ vs.toArray).extract 1 (#[Value.iface T v] ++ vs.toArray).size = (v :: vs).toArray := by simp
       simp only [h0, callMethod, Sem.run_bind, run_program, Result.andThen_ok, hmeth, h1]
       exact hen
   ·cases hm
theorem EN.value {x : Operand} {caps : List Value} {do_ : Option Tmp} (hx : ev L x = some (.func (.func f) #[] caps.toArray)) (he : p9 P f = true) (hxs : evs L xs = some vs) :
  EN P C L H ⟨do_, .call ⟨.value x, xs.toArray, ats⟩, ty, p, e, g⟩ f (vs ++ caps) := fun a w hf _ => by
 have hmap : xs.toArray.map a.eval = vs.toArray := by rw [List.map_toArray, abo hf hxs]
 simp only [execOp, resolve, hf.ev hx, hmap, Deferred.ofValue, Sem.run_bind, Sem.run_pure, Result.andThen_ok, Go.invoke]
 simp [abu he]
end call
variable {B : List (Nat × Obj)} {b : Nat} {ob : Obj}
end Go.Proofs.YtaaepdlajkdneaaDoor
namespace Go.Proofs.YtaaepdlajkdneaaDoor
open Go Go.RowKit
variable {P : Program} {ops : Array Oper} {Q : Exit → Act → World → Prop} {C : Cx} {L : Sl} {H : List HA} {rest : List Oper} {o : Oper} {md : Region.Mode} {S : World → Prop} {q : Nat}
theorem FL.enter {T : World → m0 → Act → Prop} {L : FSl} {zl : List (Nat × Obj)} {k : Nat} {f : FuncId} {vs : List Value} {d : Nat} {R : List (Nat × Obj)} {v : Value} (hE : ∀ β, EN P C (L β) H o f vs) (hd : o.dst = some d)
  (hc : j8 P f vs R [] (Ret v [])) (hR : ROk C H R) (hz : u1 zl k = none) (hw : ∀ β, m3 ops (L β) o = some true) (hn : Nat.blt d C.n = true)
  (h : FL P ops T C (fun β => (d, v) :: L β) H zl (k + 1) rest) : FL P ops T C L H zl k (o :: rest) := by
 intro A w0 hf hp
 refine ⟨fun _ => v, .inr ⟨hz, v, rfl, fun β => .inl ⟨i8 (hf β) (hw β), fun w hb => ?_⟩⟩, ?_⟩
 ·have hpw := hp.below hb
  rw [hE β _ w (hf β) hpw]
  refine (hc w [] rfl List.nodup_nil (fun k hk => by cases hk) (fun q hq => ?_)).mono ?_
  ·refine ⟨?_, by simp⟩
   rcases hR.all q hq with ⟨i, hi⟩ | hm
   ·exact hpw.blk hi
   ·exact hpw.old hm
  ·rintro en w' ⟨H', hS, hh⟩
   rcases hS with ⟨r, rfl, hS⟩ | ⟨c, rfl, hS⟩
   ·cases hS; exact ⟨rfl, hh.toBelow⟩
   ·cases hS
 ·rw [hd]; exact h _ w0 (fun β => (hf β).put hn v) hp
theorem EN.fn {f : FuncId} {xs : List Operand} {ats : Array TypeId} {d : Option Tmp} {ty : TypeId} {p : String} {e : Array Edge} {g : Option (Nat × Bool)} {vs : List Value} (he : p9 P f = true) (hx : evs L xs = some vs) :
  EN P C L H ⟨d, .call ⟨.value (.func f), xs.toArray, ats⟩, ty, p, e, g⟩ f vs := fun _ _ hf _ => w6 he hf hx
def abb (P : Program) (md : Region.Mode) (ops : Array Oper) (Q : Exit → Act → World → Prop) (S : World → Prop) (q : Nat) : Nat → Array Bool → Act → World → Prop
 | 0, listed, a, w => Region.ready md ops listed = [] ∧ Q .normal a w
 | fuel + 1, listed, a, w =>
  (Region.ready md ops listed = [] → Q .normal a w) ∧
  ∀ i ∈ Region.ready md ops listed, wpOp P ops Q i (fun a' w' => (i ≠ q → S w') ∧ abb P md ops Q S q fuel (listed.setIfInBounds i true) a' w') a w
theorem aeh : ∀ (fuel : Nat) (listed : Array Bool) (a : Act) (w : World), abb P md ops Q S q fuel listed a w → wpAny P md ops Q fuel listed a w
 | 0, _, _, _, h => h
 | fuel + 1, _, _, _, h => ⟨h.1, fun i hi => wpOp_mono (fun a' w' h' => aeh fuel _ a' w' h'.2) (h.2 i hi)⟩
theorem afr {i : Nat} {oi : Oper} {v : Value} (hi : ops[i]? = some oi) (hsel : ∀ (j : Nat) (o : Oper) cs b, ops[j]? = some o → o.op ≠ .select cs b)
  (hQ : ∀ c a w, Q (.panic c) (a.put oi.dst v) w → Q (.panic c) a w) (hlast : ∀ oq, ops[q]? = some oq → ∃ e ∈ oq.after, Region.binds md e = true ∧ e.on = i) :
  ∀ (fuel : Nat) (listed : Array Bool) (a : Act) (w : World),
   (∀ j oj, ops[j]? = some oj → j ≠ i → listed.getD j true = false → (∀ e ∈ oj.after, Region.binds md e = true → e.on ≠ i) → oi.apart ops oj = true) →
   i ∈ Region.ready md ops listed → YieldsIf P ops S oi v a → S w →
   abb P md ops Q S q fuel (listed.setIfInBounds i true) (a.put oi.dst v) w → abb P md ops Q S q (fuel + 1) listed a w := by
 intro fuel
 induction fuel with
 | zero =>
  intro listed a w _ hr hy hS H
  refine ⟨fun h => (by rw [h] at hr; cases hr), fun j hj => ?_⟩
  by_cases hji : j = i
  ·subst hji; exact hy.wpOp hi hS ⟨fun _ => hS, H⟩
  ·have := ready_mono hj hji
   rw [H.1] at this
   cases this
 | succ fuel ih =>
  intro listed a w hfree hr hy hS H
  refine ⟨fun h => (by rw [h] at hr; cases hr), fun j hj => ?_⟩
  by_cases hji : j = i
  ·subst hji; exact hy.wpOp hi hS ⟨fun _ => hS, H⟩
  ·have h1 := H.2 j (ready_mono hj hji)
   obtain ⟨hjun, oj, hoj, hall⟩ := mem_ready.1 hj
   have hnot : ∀ e ∈ oj.after, Region.binds md e = true → e.on ≠ i := fun e he hb heq => by
    have h1 := hall e he hb
    have h0 := (mem_ready.1 hr).1
    rw [heq] at h1
    rcases Nat.lt_or_ge i listed.size with h' | h'
    ·simp [h'] at h0 h1; rw [h0] at h1; cases h1
    ·simp [Array.getElem?_eq_none h'] at h1
   have hjq : j ≠ q := fun e => by
    subst e
    obtain ⟨e, he, hb, hon⟩ := hlast oj hoj
    exact hnot e he hb hon
   have h2 := wpOp_putIf hoj (hfree j oj hoj hji hjun hnot) (fun cs b => hsel i oi cs b hi) (fun cs b => hsel j oj cs b hoj) hQ hy h1
   have hfree' : ∀ k ok, ops[k]? = some ok → k ≠ i → (listed.setIfInBounds j true).getD k true = false →
     (∀ e ∈ ok.after, Region.binds md e = true → e.on ≠ i) → oi.apart ops ok = true := fun k ok hk hki hun hno => by
    refine hfree k ok hk hki ?_ hno
    by_cases hjk : j = k
    ·subst hjk; exact hjun
    ·rw [getD_set_ne true hjk] at hun; exact hun
   refine wpOp_mono (fun a' w' h3 => ⟨h3.2.1, ih (listed.setIfInBounds j true) a' w' hfree' (ready_mono hr (Ne.symm hji)) h3.1 (h3.2.1 hjq) ?_⟩) h2
   rw [Array.setIfInBounds_comm _ _ hji]
   exact h3.2.2
theorem agv {i : Nat} {oi : Oper} {v : Value} {fuel : Nat} {listed : Array Bool} {a : Act} {w : World} (hi : ops[i]? = some oi)
  (hs : Region.noSelect ops = true) (hf : Region.free md ops listed i = true) (hr : (Region.ready md ops listed).contains i = true)
  (hQ : ∀ c a w, Q (.panic c) (a.put oi.dst v) w → Q (.panic c) a w) (hlast : ∀ oq, ops[q]? = some oq → ∃ e ∈ oq.after, Region.binds md e = true ∧ e.on = i) (hy : YieldsIf P ops S oi v a) (hS : S w)
  (h : abb P md ops Q S q fuel (listed.setIfInBounds i true) (a.put oi.dst v) w) : abb P md ops Q S q (fuel + 1) listed a w :=
 afr hi (Region.noSelect_spec hs) hQ hlast fuel listed a w (Region.free_spec hi hf) (by simpa using hr) hy hS h
def af1 (P : Program) (ops : Array Oper) (Q : Exit → Act → World → Prop) (S : World → Prop) : List Oper → Act → World → Prop
 | [], a, w => Q .normal a w
 | o :: rest, a, w => Region.wanted o (yielded ops a.tmps) = true ∧ o.wp P a w (fun a' w' => (rest ≠ [] → S w') ∧ af1 P ops Q S rest a' w') Q
def WLX (P : Program) (ops : Array Oper) (Q : Exit → Act → World → Prop) (C : Cx) (HK : List HA) (L : Sl) (H : List HA) (l : List Oper) : Prop := ∀ a w, Fr C L a → Hp C H w → af1 P ops Q (Hp C HK) l a w
def SP (Q : Exit → Act → World → Prop) : Exit → Act → World → Prop
 | .panic c, a, w => ∀ a' : Act, a'.defers = a.defers → a'.tmps.size = a.tmps.size → Q (.panic c) a' w
 | e, a, w => Q e a w
theorem SP.stays : akz (SP Q) := fun c a d v w h a' h1 h2 => h a' (by rw [h1]; cases d <;> rfl) (by rw [h2]; cases d <;> simp [Act.put])
theorem Hp.right {A B : List HA} {w : World} (h : Hp C (A ++ B) w) : Hp C B w := by
 obtain ⟨F, h1, h2, h3⟩ := h.own
 obtain ⟨F1, F2, rfl, _, hB⟩ := h1.split
 exact ⟨h.os, h.tape, h.output, h.size, h.keep, h.ro, F2, hB, (List.nodup_append.1 h2).2.1, fun k hk => h3 k (List.mem_append.2 (.inr hk))⟩
theorem WLX.nil {HK : List HA} (h : QX Q .normal C L H) : WLX P ops (SP Q) C HK L H [] := fun a w hf hp => h a w hf hp
theorem WLX.op {HK H' : List HA} {L' : Sl} (idx : List Nat) (hi : q8 idx = true) (hk : sel H' idx = HK) (hop : OpK P o Q C L H L' H') (hw : m3 ops L o = some true) (h : WLX P ops Q C HK L' H' rest) : WLX P ops Q C HK L H (o :: rest) :=
 fun a w hf hp => ⟨i8 hf hw, hop _ (fun a' w' hf' hp' => ⟨fun _ => hk ▸ hp'.pick idx hi, h a' w' hf' hp'⟩) a w hf hp⟩
theorem WLX.opZ {HK H' : List HA} {L' : Sl} (hop : OpK P o Q C L H L' H') (hw : m3 ops L o = some true) (h : WLX P ops Q C HK L' H' []) : WLX P ops Q C HK L H [o] :=
 fun a w hf hp => ⟨i8 hf hw, hop _ (fun a' w' hf' hp' => ⟨fun e => absurd rfl e, h a' w' hf' hp'⟩) a w hf hp⟩
theorem WLX.pick {HK : List HA} {l : List Oper} (idx : List Nat) (hi : q8 idx = true) {H' : List HA} (he : sel H idx = H') (h : WLX P ops Q C HK L H' l) : WLX P ops Q C HK L H l := fun a w hf hp => h a w hf (he ▸ hp.pick idx hi)
theorem WLX.callS {HK : List HA} {f : FuncId} {vs : List Value} {d : Nat} {R : List (Nat × Obj)} {A Rest : List HA} {S : Out → Prop} (idx : List Nat) (hi : q8 idx = true) (hE : EN P C L H o f vs) (hd : o.dst = some d) (hc : j8 P f vs R A S) (hH : H = A ++ Rest) (hk : sel Rest idx = HK) (hR : ROk C Rest R)
  (hw : m3 ops L o = some true) (hn : Nat.blt d C.n = true)
  (h : ∀ r H', S (.ret r H') → WLX P ops Q C HK ((d, r) :: L) (H' ++ Rest) rest) (hpan : ∀ c H', S (.pan c H') → QX Q (.panic c) C L (H' ++ Rest)) : WLX P ops Q C HK L H (o :: rest) := by
 intro a w hf hp
 subst hH
 refine ⟨i8 hf hw, ?_⟩
 unfold Oper.wp
 rw [hE a w hf hp]
 simp only [Oper.upon]
 refine (af2 hc hp hR).mono ?_
 rintro en w' ⟨H', hS, hh⟩
 rcases hS with ⟨r, rfl, hS⟩ | ⟨c, rfl, hS⟩
 ·rw [hd]
  exact ⟨fun _ => hk ▸ hh.right.pick idx hi, h r H' hS _ _ (hf.put hn r) hh⟩
 ·exact hpan c H' hS _ _ hf hh
end Go.Proofs.YtaaepdlajkdneaaDoor
namespace Go.Proofs.YtaaepdlajkdneaaDoor
open Go Go.RowKit
variable {P : Program} {ops : Array Oper} {Q : Exit → Act → World → Prop} {C : Cx} {L : Sl} {H : List HA} {rest : List Oper} {o : Oper} {B : List (Nat × Obj)} {v u : Value} {vs : List Value} {d : Nat}
def Rd (C : Cx) (H : List HA) (R : List (Nat × Obj)) : Prop := ∀ p ∈ R, ∀ w, Hp C H w → w.heap[p.1]? = some p.2
theorem Rd.nil : Rd C H [] := fun p hp => by cases hp
theorem Rd.old : Rd C H C.R := fun _ hp _ h => h.old hp
def CV (P : Program) (C : Cx) (L : Sl) (H : List HA) (o : Oper) (v : Value) : Prop := ∃ f vs R, EN P C L H o f vs ∧ j8 P f vs R [] (Ret v []) ∧ Rd C H R
def akv (P : Program) (B : List (Nat × Obj)) (u : Value) (args : List Value) (v : Value) : Prop := ∃ f caps, u = .func (.func f) #[] (List.toArray caps) ∧ p9 P f = true ∧ j8 P f (args ++ caps) B [] (Ret v [])
section cv
variable {x : Operand} {xs : List Operand} {ats : Array TypeId} {ty : TypeId} {p : String} {e : Array Edge} {g : Option (Nat × Bool)} {name : String} {do_ : Option Tmp}
theorem CV.value (hx : ev L x = some u) (hV : akv P B u vs v) (hxs : evs L xs = some vs) (hR : Rd C H B) : CV P C L H ⟨do_, .call ⟨.value x, xs.toArray, ats⟩, ty, p, e, g⟩ v := by
 obtain ⟨f, caps, rfl, he, hc⟩ := hV
 exact ⟨f, vs ++ caps, B, EN.value hx he hxs, hc, hR⟩
end cv
theorem akv.func {f : FuncId} {caps : List Value} (he : p9 P f = true) (h : j8 P f (vs ++ caps) B [] (Ret v [])) : akv P B (.func (.func f) #[] caps.toArray) vs v := ⟨f, caps, rfl, he, h⟩
end Go.Proofs.YtaaepdlajkdneaaDoor
namespace Go.Proofs.YtaaepdlajkdneaaDoor
open Go Go.RowKit
variable {P : Program} {ops : Array Oper} {Q : Exit → Act → World → Prop} {C : Cx} {L : Sl} {H HK : List HA} {rest : List Oper} {o : Oper} {d : Nat}
def anh (P : Program) (C : Cx) (L : Sl) (H : List HA) (o : Oper) (Φ : Value → List HA → Prop) : Prop := ∀ a w, Fr C L a → Hp C H w → ∃ v w' H', (execOp a.eval o).run P w = .ok (.value v) w' ∧ Φ v H' ∧ Hp C H' w'
theorem WLX.valX {Φ : Value → List HA → Prop} (hv : anh P C L H o Φ) (idx : List Nat) (hi : q8 idx = true) (hk : ∀ v H', Φ v H' → sel H' idx = HK) (hd : o.dst = some d) (hw : m3 ops L o = some true) (hn : Nat.blt d C.n = true)
  (h : ∀ v H', Φ v H' → WLX P ops Q C HK ((d, v) :: L) H' rest) : WLX P ops Q C HK L H (o :: rest) := by
 intro a w hf hp
 obtain ⟨v, w', H', hr, hΦ, hp'⟩ := hv a w hf hp
 refine ⟨i8 hf hw, ?_⟩
 unfold Oper.wp
 rw [hr]
 simp only [Oper.upon, hd]
 exact ⟨fun _ => hk v H' hΦ ▸ hp'.pick idx hi, h v H' hΦ _ _ (hf.put hn v) hp'⟩
theorem WLX.make {Z : Obj} {f : Nat → Value} (hv : MV P C L H o Z f) (idx : List Nat) (hi : q8 idx = true) (hk : ∀ b, sel (.blk b Z :: H) idx = HK) (hd : o.dst = some d) (hw : m3 ops L o = some true) (hn : Nat.blt d C.n = true)
  (h : ∀ b, WLX P ops Q C HK ((d, f b) :: L) (.blk b Z :: H) rest) : WLX P ops Q C HK L H (o :: rest) :=
 WLX.valX (Φ := fun v H' => ∃ b, v = f b ∧ H' = .blk b Z :: H) (fun a w hf hp => ⟨_, _, _, hv a w hf hp, ⟨_, rfl, rfl⟩, hp.alloc Z⟩) idx hi (fun _ _ ⟨b, _, e⟩ => e ▸ hk b) hd hw hn (fun _ _ ⟨b, e1, e2⟩ => by subst e1; subst e2; exact h b)
section ap
variable {α : Type} {f : α → List Value} {sz : Nat} {v : Value} {l ms : List α} {s x : Operand} {t e' T ty : TypeId} {p : String} {e : Array Edge} {cs zs : List Value} {bytes : Nat}
end ap
theorem aiu {u : Value} (h : u.oneCell' = true) : u.cells = [u].toArray := by cases u <;> first | rfl | (cases h; done)
def afm (place : Nat → Option (Nat × Nat)) (cells : Array Value) : List (Nat × List Value) → Option (Array Value)
 | [] => some cells
 | (i, v) :: rest =>
  match place i with
  | none => none
  | some (off, size) => if v.length ≠ size || off + v.length > cells.size then none else afm place (v.toArray.zipIdx.foldl (fun cs (c, j) => cs.setIfInBounds (off + j) c) cells) rest
def aed : List (Nat × Value) → List (Nat × List Value) → Prop
 | [], [] => True
 | p :: r, q :: s => p.1 = q.1 ∧ p.2.cells = q.2.toArray ∧ aed r s
 | _, _ => False
theorem ab0 {place : Nat → Option (Nat × Nat)} : ∀ {ps : List (Nat × Value)} {qs : List (Nat × List Value)} (cells : Array Value), aed ps qs → Instr.fill place cells ps = afm place cells qs
 | [], [], _, _ => rfl
 | (i, v) :: ps, (j, l) :: qs, cells, h => by
  obtain ⟨h1, h2, h3⟩ := h
  simp only at h1 h2
  subst h1
  unfold Instr.fill afm
  cases hp : place i with
  | none => rfl
  | some q =>
   obtain ⟨off, size⟩ := q
   simp only [h2, List.size_toArray, ab0 _ h3]
 | [], _ :: _, _, h => h.elim
 | _ :: _, [], _, h => h.elim
def ak6 (P : Program) (t : TypeId) (parts : List (Nat × List Value)) : Option (Array Value) :=
 match P.info? t, P.underlying t with
 | some it, some (.array _ e) =>
  match it.zero, P.info? e with
  | some z, some ie => afm (fun i => some (i * ie.size, ie.size)) z.cells parts
  | _, _ => none
 | some it, some (.struct fields) =>
  match it.zero, fields.toList.mapM (fun f => (P.info? f.type).map fun i => (f.offset, i.size)) with
  | some z, some places => afm (places.toArray[·]?) z.cells parts
  | _, _ => none
 | _, _ => none
theorem OV.buildC {t ty : TypeId} {d : Option Tmp} {p : String} {e : Array Edge} {g : Option (Nat × Bool)} {ps : List (Nat × Operand)} {vs : List (Nat × Value)} {qs : List (Nat × List Value)} {cs : List Value} (hx : evp L ps = some vs) (hc : aed vs qs) (hb : ak6 P t qs = some cs.toArray) : OV P C L H ⟨d, .build t ps.toArray, ty, p, e, g⟩ (.agg cs.toArray) := by
 refine OV.build hx ?_
 have h1 : ∀ place cells, Instr.fill place cells vs = afm place cells qs := fun _ cells => ab0 cells hc
 rw [← hb]
 simp only [Program.built, ak6, h1]
 rfl
theorem LIn.one {v : Value} {n : Nat} {xs : List Value} (h : LIn C v n xs) : v.oneCell' = true := by
 obtain ⟨R, h1, _⟩ := h
 rcases h1 with ⟨_, _, ⟨_, _, rfl⟩, _⟩ | ⟨_, _, _, _, _, _, rfl, _⟩ <;> rfl
end Go.Proofs.YtaaepdlajkdneaaDoor
namespace Go.Proofs.YtaaepdlajkdneaaDoor
open Go Go.RowKit
variable {P : Program} {Q : Exit → Act → World → Prop} {C : Cx} {L : Sl} {H : List HA}
section st
variable {x y : Operand} {t ty T : TypeId} {p : String} {e : Array Edge} {g : Option (Nat × Bool)} {v u : Value} {sz : Nat} {α : Type} [Inhabited α] {f : α → List Value} {l : List α}
omit [Inhabited α] in
theorem OpK.storeE (i : Nat) {j : Nat} {z : α} (hx : ev L x = some (.pointer (some ⟨x9 v, j * sz, none⟩))) (hy : ev L y = some u) (hi : H[i]? = some (.row v T sz l.length (l.flatMap f))) (hf' : ∀ x, (f x).length = sz) (h0 : 0 < sz) (hj : j < l.length) (hv : u.cells = (f z).toArray) (hs : t7 P t sz = true) (h1 : (f z).all (·.oneCell') = true) :
  OpK P ⟨none, .store t x y, ty, p, e, g⟩ Q C L H L (H.set i (.row v T sz (l.set j z).length ((l.set j z).flatMap f))) := by
 have := OpK.storeRow (Q := Q) (C := C) (p := p) (e := e) (g := g) (ty := ty) (xs' := (l.set j z).flatMap f) i hx hy hi hv (by rw [hf']; exact hs) (fun e => by have := hf' z; rw [e, List.length_nil] at this; omega) (by
  rw [v6 hf', hf']
  have : (j + 1) * sz ≤ l.length * sz := Nat.mul_le_mul_right _ hj
  rw [Nat.add_mul, Nat.one_mul] at this; exact this) h1 (by
  rw [hf']
  have h2 : j * sz + sz = (j + 1) * sz := by rw [Nat.add_mul, Nat.one_mul]
  have h1 : ∀ (l : List α) (i : Nat), (l.flatMap f).take (i * sz) = (l.take i).flatMap f := by
   intro l
   induction l with
   | nil => intro i; simp
   | cons y l ih =>
    intro i
    cases i with
    | zero => simp
    | succ i =>
     rw [List.flatMap_cons, Nat.add_mul, Nat.one_mul, Nat.add_comm, List.take_append, hf', List.take_of_length_le (by rw [hf']; omega), show sz + i * sz - sz = i * sz by omega, ih i]; rfl
  rw [h1, h2, aa0 hf', List.set_eq_take_append_cons_drop, if_pos hj]
  simp [List.flatMap_append])
 rw [List.length_set]; exact this
end st
theorem CV.fn {f : FuncId} {xs : List Operand} {ats : Array TypeId} {d : Option Tmp} {ty : TypeId} {p : String} {e : Array Edge} {g : Option (Nat × Bool)} {vs : List Value} {R : List (Nat × Obj)} {v : Value} (he : p9 P f = true) (hx : evs L xs = some vs) (hc : j8 P f vs R [] (Ret v [])) (hR : Rd C H R) :
  CV P C L H ⟨d, .call ⟨.value (.func f), xs.toArray, ats⟩, ty, p, e, g⟩ v := ⟨f, vs, R, EN.fn he hx, hc, hR⟩
theorem j8.one {P : Program} {f : FuncId} {args : List Value} {R : List (Nat × Obj)} {α : Type} {e : α → Value} {c : α} (h : j8 P f args R [] (fun o => (∃ v, v = c ∧ o = .ret (e v) []) ∨ False)) : j8 P f args R [] (Ret (e c) []) := h.weak (by
 rintro o (⟨v, rfl, rfl⟩ | h)
 ·rfl
 ·exact h.elim)
end Go.Proofs.YtaaepdlajkdneaaDoor
namespace Go.Proofs.YtaaepdlajkdneaaDoor
open Go Go.RowKit
variable {P : Program} {C : Cx} {H : List HA}
theorem LOk.at {v : Value} {n : Nat} {xs : List Value} (hL : LOk C H v n xs) {w : World} (hp : Hp C H w) : ∃ R, w8 v R n xs ∧ ∀ p ∈ R, w.heap[p.1]? = some p.2 := by
 obtain ⟨F, h1, _⟩ := hp.own
 obtain ⟨R, hR, hh⟩ := hL w F h1
 refine ⟨R, hR, fun p hp' => ?_⟩
 rcases hh p hp' with h | h
 ·exact h.1
 ·exact hp.old h
end Go.Proofs.YtaaepdlajkdneaaDoor
namespace Go.Proofs.YtaaepdlajkdneaaDoor
open Go Go.RowKit
variable {P : Program} {ops : Array Oper} {Q : Exit → Act → World → Prop} {C : Cx} {L : Sl} {H : List HA} {md : Region.Mode} {S : World → Prop} {q : Nat}
def act (ops : Array Oper) : List Nat → List Oper
 | [] => []
 | i :: r => match ops[i]? with
  | some o => o :: act ops r
  | none => []
def ak9 (l : List Oper) : List Nat → List Oper
 | [] => []
 | i :: r => match l[i]? with
  | some o => o :: ak9 l r
  | none => []
theorem acj {i : Nat} {o : Oper} (h : ops[i]? = some o) (r : List Nat) : act ops (i :: r) = o :: act ops r := by
 rw [act, h]
theorem afv (l : List Oper) : ∀ r, ak9 l r = act l.toArray r
 | [] => rfl
 | i :: r => by
  unfold ak9 act
  rw [List.getElem?_toArray, afv l r]
def ajp (md : Region.Mode) (ops : Array Oper) : List Nat → Array Bool → Bool
 | [], listed => (Region.ready md ops listed).isEmpty
 | i :: r, listed => decide (Region.ready md ops listed = [i]) && ajp md ops r (listed.setIfInBounds i true)
def aij (md : Region.Mode) (ops : Array Oper) (tl : List Nat) : List Nat → Array Bool → Bool
 | [], listed => ajp md ops tl listed
 | i :: r, listed => (Region.ready md ops listed).contains i && Region.free md ops listed i && aij md ops tl r (listed.setIfInBounds i true)
theorem abd : ∀ (tl : List Nat) (listed : Array Bool) (a : Act) (w : World), (tl ≠ [] → tl.getLast? = some q) →
  ajp md ops tl listed = true → af1 P ops Q S (act ops tl) a w → abb P md ops Q S q tl.length listed a w
 | [], _, _, _, _, hB, h => ⟨by simpa [ajp] using hB, h⟩
 | i :: tl, listed, a, w, hq, hB, h => by
  simp only [ajp, Bool.and_eq_true, decide_eq_true_eq] at hB
  obtain ⟨o, ho⟩ : ∃ o, ops[i]? = some o := by
   have hm : i ∈ Region.ready md ops listed := by rw [hB.1]; simp
   obtain ⟨_, o, ho, _⟩ := mem_ready.1 hm
   exact ⟨o, ho⟩
  rw [acj ho] at h
  refine ⟨fun h1 => (by rw [hB.1] at h1; cases h1), fun j hj => ?_⟩
  rw [hB.1] at hj
  obtain rfl : j = i := by simpa using hj
  unfold wpOp
  simp only [ho, h.1, if_true]
  have hl := hq (by simp)
  refine .inl (Oper.wp_mono (fun a' w' h' => ⟨fun hne => h'.1 (fun e => hne ?_), ?_⟩) h.2)
  ·refine abd tl _ a' w' (fun hne => ?_) hB.2 h'.2
   cases tl with
   | nil => exact absurd rfl hne
   | cons k tl => simpa using hl
  ·cases tl with
   | nil => simpa using hl
   | cons k tl =>
    exfalso
    have hk : ∃ o, ops[k]? = some o := by
     have h2 := hB.2
     simp only [ajp, Bool.and_eq_true, decide_eq_true_eq] at h2
     have hm : k ∈ Region.ready md ops (listed.setIfInBounds j true) := by rw [h2.1]; simp
     obtain ⟨_, o, ho, _⟩ := mem_ready.1 hm
     exact ⟨o, ho⟩
    obtain ⟨o2, ho2⟩ := hk
    rw [acj ho2] at e
    cases e
theorem aip {tl : List Nat} {HK : List HA} (hsel : Region.noSelect ops = true) (hq : akz Q) (hlq : tl ≠ [] → tl.getLast? = some q) : ∀ (hs : List Nat) (listed : Array Bool) (L : Sl) (a : Act) (w : World),
  (∀ i ∈ hs, ∀ oq, ops[q]? = some oq → ∃ e ∈ oq.after, Region.binds .any e = true ∧ e.on = i) →
  aij .any ops tl hs listed = true → Fr C L a → Hp C H w → Hp C HK w → TW P ops C HK (fun L' => WLX P ops Q C HK L' H (act ops tl)) L (act ops hs) → abb P .any ops Q (Hp C HK) q (hs.length + tl.length) listed a w
 | [], listed, L, a, w, _, hB, hf, hp, _, h => by
  rw [show ([] : List Nat).length + tl.length = tl.length by simp]
  exact abd tl listed a w hlq hB (h a w hf hp)
 | i :: hs, listed, L, a, w, hlast, hB, hf, hp, hpk, h => by
  simp only [aij, Bool.and_eq_true] at hB
  obtain ⟨⟨hrd, hfr⟩, hB'⟩ := hB
  obtain ⟨o, h0⟩ : ∃ o, ops[i]? = some o := by
   obtain ⟨_, o, ho, _⟩ := mem_ready.1 (by simpa using hrd)
   exact ⟨o, ho⟩
  rw [acj h0] at h
  obtain ⟨v, d, hv, hd, hn, h⟩ := h
  have hy : YieldsIf P ops (Hp C HK) o v a := by
   rcases hv with ⟨hw, hv⟩ | ⟨hw, rfl⟩
   ·exact .inl ⟨i8 hf hw, fun w' hw' => hv a w' hf hw'⟩
   ·exact .inr ⟨i8 hf hw, rfl⟩
  have ih := aip hsel hq hlq hs (listed.setIfInBounds i true) ((d, v) :: L) (a.put (some d) v) w (fun j hj => hlast j (List.mem_cons_of_mem _ hj)) hB' (hf.put hn v) hp hpk h
  rw [show (i :: hs).length + tl.length = (hs.length + tl.length) + 1 by simp; omega]
  refine agv h0 hsel hfr hrd (fun c a w h => hq c a _ v w h) (hlast i List.mem_cons_self) hy hpk ?_
  rw [hd]; exact ih
def amc (l : List Oper) (hs : List Nat) : Bool := match l[l.length - 1]? with
 | some o => hs.all fun i => o.after.any fun e => Region.binds .any e && Nat.beq e.on i
 | none => false
theorem aj8 {id : Nat} {l : List Oper} {L : Sl} (hs tl : List Nat) (idx : List Nat) (HK : List HA) (hi : q8 idx = true) (hk : sel H idx = HK) (hm : P.follows .mixedOrders = true)
  (hB : (Region.noSelect l.toArray && Nat.beq (hs.length + tl.length) l.length && decide (tl.getLast? = some (l.length - 1)) && amc l hs && aij .any l.toArray tl hs (Array.replicate l.length false)) = true)
  (h : ∀ T : Sl → Prop, (∀ L', WLX P l.toArray (SP Q) C HK L' H (ak9 l tl) → T L') → TW P l.toArray C HK T L (ak9 l hs)) : WC P (.region id l.toArray true) Q C L H := by
 intro a w hf hp
 simp only [Bool.and_eq_true, decide_eq_true_eq] at hB
 obtain ⟨⟨⟨⟨hsel, hn⟩, hlq⟩, hla⟩, hlex⟩ := hB
 have hn' := Nat.eq_of_beq_eq_true hn
 refine wp_mono (Q := SP Q) (wp_region_any hm ?_) (fun e a w hq => ?_)
 ·have := aeh _ _ _ _ (aip (P := P) (ops := l.toArray) (Q := SP Q) (C := C) (H := H) (HK := HK) (tl := tl) (q := l.length - 1) hsel SP.stays (fun _ => hlq) hs (Array.replicate l.length false) L a w.drew
   (fun i hi oq hoq => by
    unfold amc at hla
    have h1 : l[l.length - 1]? = some oq := by simpa using hoq
    rw [h1] at hla
    have h2 := List.all_eq_true.1 hla i hi
    obtain ⟨e, he, hb⟩ := Array.any_eq_true'.1 h2
    simp only [Bool.and_eq_true] at hb
    exact ⟨e, he, hb.1, Nat.eq_of_beq_eq_true hb.2⟩)
   hlex hf hp.drew (hk ▸ hp.drew.pick idx hi) (by rw [← afv, ← afv]; exact h _ fun _ hh => hh))
  rw [hn'] at this
  simpa using this
 ·cases e with
  | panic c => exact hq a rfl rfl
  | _ => exact hq
end Go.Proofs.YtaaepdlajkdneaaDoor
namespace Go.Proofs.YtaaepdlajkdneaaDoor
open Go Go.RowKit
variable {P : Program} {ops : Array Oper} {Q : Exit → Act → World → Prop} {C : Cx} {L : Sl} {H : List HA} {rest : List Oper} {w : World}
theorem Own.mem {K : List HA} {x : HA} : ∀ {F : List Nat}, Own w K F → x ∈ K → ∃ f, x.at w f ∧ ∀ k ∈ f, k ∈ F := by
 induction K with
 | nil => intro F _ h; cases h
 | cons y K ih =>
  rintro F ⟨F1, F2, rfl, h1, h2⟩ h
  rcases List.mem_cons.1 h with rfl | h
  ·exact ⟨F1, h1, fun k hk => List.mem_append.2 (.inl hk)⟩
  ·obtain ⟨f, h3, h4⟩ := ih h2 h
   exact ⟨f, h3, fun k hk => List.mem_append.2 (.inr (h4 k hk))⟩
section ov
variable {x y : Operand} {t e' ty T : TypeId} {d : Option Tmp} {p : String} {e : Array Edge} {g : Option (Nat × Bool)} {v : Value} {k : IntKind} {sz n : Nat} {xs : List Value} {K : List HA} {α : Type} [Inhabited α] {f : α → List Value} {l : List α}
end ov
end Go.Proofs.YtaaepdlajkdneaaDoor
namespace Go.Proofs.YtaaepdlajkdneaaDoor
open Go Go.RowKit
variable {P : Program} {ops : Array Oper} {Q : Exit → Act → World → Prop} {C : Cx} {L : Sl} {H : List HA} {rest : List Oper} {w : World} {kt et mt : TypeId} {b : Nat} {l : List Int}
def amu (P : Program) (kt et : TypeId) (b : Nat) (l : List Int) (w : World) (F : List Nat) : Prop :=
 F = [b] ∧ ∃ (n : Nat) (D : DataW Unit), n ≤ l.length ∧ w.ownsMap P kt (plainElem P et) b n D ∧ Maps.IsMap D ∧ ∀ c : Int, 0 ≤ c → c < 256 → D.atKey (.int .u8 c) (.lit (.int .i64 0)) = .lit (.int .i64 ((l.count c : Nat) : Int))
theorem ahu (P : Program) (kt et : TypeId) (b : Nat) (l : List Int) : amb (amu P kt et b l) := by
 rintro w w' F ⟨rfl, n, D, h1, ⟨es, clock, hb, h2⟩, h3⟩ hk
 exact ⟨rfl, n, D, h1, ⟨es, clock, by rw [hk b (by simp)]; exact hb, h2⟩, h3⟩
def cnt (P : Program) (kt et : TypeId) (b : Nat) (l : List Int) : HA := .gen (amu P kt et b l) (ahu P kt et b l)
structure CntT (P : Program) (mt kt et : TypeId) : Prop where
 map : P.underlying mt = some (.map kt et)
 key : P.underlying kt = some (.int .u8)
 elem : P.underlying et = some (.int .i64)
 zero : aj4 P et = some (.int .i64 0)
theorem amd {c : Int} (h : 0 ≤ c ∧ c < 256) : (Lit.int .u8 c).wf = true := by
 obtain ⟨n, rfl⟩ : ∃ n : Nat, c = n := ⟨c.toNat, by omega⟩
 have h1 : IntKind.u8.min = 0 := rfl
 have h2 : IntKind.u8.max = 255 := rfl
 simp [Lit.wf]; omega
theorem Hp.cnt (hp : Hp C H w) (i : Nat) (hi : H[i]? = some (Go.Proofs.YtaaepdlajkdneaaDoor.cnt P kt et b l)) : ∃ F, amu P kt et b l w F := by
 obtain ⟨F, h1, _⟩ := hp.own
 exact h1.each i _ hi
theorem OV.lookup {x y : Operand} {ty : TypeId} {d : Option Tmp} {p : String} {e : Array Edge} {g : Option (Nat × Bool)} {c : Int} (i : Nat) (hx : ev L x = some (.map (some b))) (hy : ev L y = some (.int .u8 c)) (hi : H[i]? = some (cnt P kt et b l)) (ht : CntT P mt kt et) (hc : 0 ≤ c ∧ c < 256) :
  OV P C L H ⟨d, .lookup mt x y false, ty, p, e, g⟩ (.int .i64 ((l.count c : Nat) : Int)) := fun a w hf hp => by
 obtain ⟨F, rfl, n, D, _, hown, _, hat⟩ := hp.cnt i hi
 obtain ⟨v, hrun, h2, _⟩ := hown.lookup_int (Maps.int_keyed ht.key) ht.map ht.elem (ajc ht.zero w) (Maps.keyOf_int_mk ht.key (amd hc))
 rw [hat c hc.1 hc.2] at h2
 simp only [DataW.lit.injEq, Lit.int.injEq, true_and] at h2
 subst h2
 simp [execOp, hf.ev hx, hf.ev hy, hrun]
theorem WL.mapUpdate {x y z : Operand} {ty : TypeId} {p : String} {e : Array Edge} {g : Option (Nat × Bool)} {c : Int} (i : Nat) (hx : ev L x = some (.map (some b))) (hy : ev L y = some (.int .u8 c)) (hz : ev L z = some (.int .i64 (((l.count c : Nat) : Int) + 1))) (hi : H[i]? = some (cnt P kt et b l)) (ht : CntT P mt kt et) (hc : (0 ≤ c ∧ c < 256) ∧ l.length < 140737488355328)
  (hw : m3 ops L ⟨none, .mapUpdate mt x y z, ty, p, e, g⟩ = some true) (h : WL P ops Q C L (H.set i (cnt P kt et b (c :: l))) rest) : WL P ops Q C L H (⟨none, .mapUpdate mt x y z, ty, p, e, g⟩ :: rest) := by
 refine WL.op (fun K hK a w hf hp => ?_) hw h
 obtain ⟨F, hF, n, D, hn, hown, hmap, hat⟩ := hp.cnt i hi
 have hcnt : l.count c ≤ l.length := List.count_le_length
 have hv : plainElem (H := Unit) P et (.int .i64 (((l.count c : Nat) : Int) + 1)) = some (.lit (.int .i64 (((l.count c : Nat) : Int) + 1)), []) := plainElem_int ht.elem (by
  have h1 : IntKind.i64.min = -9223372036854775808 := rfl
  have h2 : IntKind.i64.max = 9223372036854775807 := rfl
  simp [Lit.wf]; omega)
 obtain ⟨w', hrun, h1, h2⟩ := hown.update (Maps.int_keyed ht.key) ht.map (by unfold maxLen; omega) (Maps.keyOf_int_mk ht.key (amd hc.1)) hv
 have hsw := hp.swap (w' := w') (x' := cnt P kt et b (c :: l)) hi h2.os h2.tape h2.output h2.size (fun F' hF' k hk hne => h2.block k hk (fun e => by
   obtain ⟨rfl, _⟩ := hF'
   cases e; exact hne (by simp))) (fun F' hF' _ => by
   obtain ⟨rfl, _⟩ := hF'
   refine ⟨[b], ⟨rfl, n + 1, _, by simp; omega, h1, hmap.put _ _, fun q q0 q1 => ?_⟩, by simp, fun k hk => ?_⟩
   ·by_cases hq : q = c
    ·subst hq
     rw [Maps.atKey_put_same hmap (by trivial)]
     simp
    ·rw [Maps.atKey_put_other (fun e => hq (by cases e; rfl)), hat q q0 q1, List.count_cons_of_ne (fun e => hq e.symm)]
   ·obtain rfl := List.mem_singleton.1 hk
    exact ⟨.inl (by simp), h1.lt⟩)
 unfold Oper.wp
 simp only [execOp, hf.ev hx, hf.ev hy, hf.ev hz, Sem.run_bind, hrun, Result.andThen_ok, Sem.run_pure, Oper.upon]
 exact hK _ _ (hf.put0 _) hsw
theorem WL.makeMap {d : Nat} {ty : TypeId} {p : String} {e : Array Edge} {g : Option (Nat × Bool)} (_ht : CntT P mt kt et) (hw : m3 ops L ⟨some d, .makeMap mt none, ty, p, e, g⟩ = some true) (hn : Nat.blt d C.n = true)
  (h : ∀ b, WL P ops Q C ((d, .map (some b)) :: L) (cnt P kt et b [] :: H) rest) : WL P ops Q C L H (⟨some d, .makeMap mt none, ty, p, e, g⟩ :: rest) := by
 intro a w hf hp
 refine m6 (i8 hf hw) ?_
 unfold Oper.wp
 have hrun : (Instr.makeMap mt none).run P w = .ok (.map (some w.heap.size)) (w.alloc (.map #[] 0)) := rfl
 simp only [execOp, Option.map_none, Sem.run_bind, hrun, Result.andThen_ok, Sem.run_pure, Oper.upon]
 refine h _ _ _ (hf.put hn _) ?_
 have h1 := hp.alloc (.map #[] 0)
 have h2 := h1.swap (w' := w.alloc (.map #[] 0)) (i := 0) (x' := cnt P kt et w.heap.size []) rfl rfl rfl rfl (Nat.le_refl _) (fun _ _ _ _ _ => rfl) (fun F' hF' _ => by
  obtain ⟨rfl, hb⟩ := hF'
  refine ⟨[w.heap.size], ⟨rfl, 0, .map [], by simp, World.ownsMap_made w P kt _, Maps.isMap_empty, fun c _ _ => by simp [DataW.atKey]⟩, by simp, fun k hk => ?_⟩
  obtain rfl := List.mem_singleton.1 hk
  exact ⟨.inl (by simp), s9 hb⟩)
 exact h2
theorem OV.sliceArr {x : Operand} {t e' ty : TypeId} {d : Option Tmp} {p : String} {e : Array Edge} {g : Option (Nat × Bool)} {b n sz : Nat} (hx : ev L x = some (.pointer (some ⟨b, 0, none⟩))) (ht : ahs P t e' n sz = true) (_hn : Nat.blt 0 n = true) :
  OV P C L H ⟨d, .slice t x none none none, ty, p, e, g⟩ (.slice (some ⟨b, 0, none⟩) n n) := fun a w hf _ => by
 obtain ⟨hu, hs⟩ := afj ht
 have he : P.elem t = e' := by simp [Program.elem, hu]
 have hl : P.arrayLen t = n := by simp [Program.arrayLen, hu]
 have ha : P.underlying t = some (.array (P.arrayLen t) (P.elem t)) := by rw [he, hl]; exact hu
 have h1 : (sizeOf (P.elem t)).run P w = .ok sz w := by rw [he]; exact x8 hs w
 simp only [execOp, Option.map_none, hf.ev hx, Sem.run_bind, run_sliceAt_array_all (P := P) w t _ ha, h1, Result.andThen_ok, Sem.run_pure, hl]
 simp [slicedAt, Addr.add]
end Go.Proofs.YtaaepdlajkdneaaDoor
namespace Go.Proofs.YtaaepdlajkdneaaDoor.SC
open Go Go.RowKit
section
variable {P : Program} {ops : Array Oper} {md : Region.Mode} {B : Nat} {w0 : World} {Zs : Nat → Option Obj}
def j9 (P : Program) (md : Region.Mode) (ops : Array Oper) (B : Nat) (w0 : World) (Zs : Nat → Option Obj) (i : Nat) (o : Oper) (v : m0 → Value) (A : Fam) : Prop :=
 (∃ Z, ∃ f : Nat → Value, Zs i = some Z ∧ v = (fun β => f (β i)) ∧ ∀ β, Region.wanted o (yielded ops (A β).tmps) = true ∧ ∀ w, Below B w0 w → (execOp (A β).eval o).run P w = .ok (.value (f w.heap.size)) (w.alloc Z)) ∨
 (Zs i = none ∧ ∃ u, v = (fun _ => u) ∧ ∀ β, (Region.wanted o (yielded ops (A β).tmps) = true ∧ ∀ w, Below B w0 w → (∀ e ∈ o.after, Region.binds md e = true → ∀ Z, Zs e.on = some Z → w.heap[β e.on]? = some Z) → aa4 P u w ((execOp (A β).eval o).run P w)) ∨
  (Region.wanted o (yielded ops (A β).tmps) = false ∧ u = undef))
theorem j9.of_same {i : Nat} {o : Oper} {v : m0 → Value} {A A' : Fam} (hy : j9 P md ops B w0 Zs i o v A) (he : ∀ β, execOp (A' β).eval o = execOp (A β).eval o)
  (hw : ∀ β, Region.wanted o (yielded ops (A' β).tmps) = Region.wanted o (yielded ops (A β).tmps)) : j9 P md ops B w0 Zs i o v A' := by
 unfold j9 at *; simp only [he, hw]; exact hy
def flOpA (P : Program) (md : Region.Mode) (ops : Array Oper) (B : Nat) (w0 : World) (Zs : Nat → Option Obj) (i : Nat) (K : Fam → Prop) (A : Fam) : Prop :=
 match ops[i]? with
 | none => K A
 | some o => ∃ v, j9 P md ops B w0 Zs i o v A ∧ K (A.put o.dst v)
theorem z8 {i : Nat} {A : Fam} {K K' : Fam → Prop} (h : ∀ A, K A → K' A) (hh : flOpA P md ops B w0 Zs i K A) : flOpA P md ops B w0 Zs i K' A := by
 unfold flOpA at *
 split
 ·exact h _ (by simpa [*] using hh)
 ·rename_i o ho
  simp only [ho] at hh
  obtain ⟨v, hy, hk⟩ := hh
  exact ⟨v, hy, h _ hk⟩
theorem j9.toOp {i : Nat} {o : Oper} {v : m0 → Value} {A : Fam} (hi : ops[i]? = some o) (hy : j9 P md ops B w0 Zs i o v A) {K : Fam → Prop} (h : K (A.put o.dst v)) : flOpA P md ops B w0 Zs i K A := by
 unfold YtaaepdlajkdneaaDoor.SC.flOpA; simp only [hi]; exact ⟨v, hy, h⟩
theorem aaw {i j : Nat} {oi oj : Oper} {v : m0 → Value} (hj : ops[j]? = some oj) (hap : oi.apart ops oj = true)
  (hsi : ∀ cs b, oi.op ≠ .select cs b) (hsj : ∀ cs b, oj.op ≠ .select cs b) {K : Fam → Prop} {A : Fam}
  (hy : j9 P md ops B w0 Zs i oi v A) (h : flOpA P md ops B w0 Zs j K (A.put oi.dst v)) :
  flOpA P md ops B w0 Zs j (fun A' => j9 P md ops B w0 Zs i oi v A' ∧ K (A'.put oi.dst v)) A := by
 obtain ⟨h1, h2, h3⟩ := Oper.apart_spec hap
 unfold flOpA at *
 simp only [hj] at *
 obtain ⟨u, hu, hk⟩ := h
 refine ⟨u, hu.of_same (fun β => (execOp_put oj hsj (A β) oi.dst (v β) h1).symm) (fun β => (wanted_put oj (A β) oi.dst (v β) h1).symm), ?_, ?_⟩
 ·exact hy.of_same (fun β => execOp_put oi hsi (A β) oj.dst (u β) h3) (fun β => wanted_put oi (A β) oj.dst (u β) h3)
 ·have e : (A.put oj.dst u).put oi.dst v = (A.put oi.dst v).put oj.dst u := by funext β; exact (Act.put_comm (A β) (v β) (u β) h2).symm
  rw [e]; exact hk
def r7 (P : Program) (md : Region.Mode) (ops : Array Oper) (B : Nat) (w0 : World) (Zs : Nat → Option Obj) (n : Nat) (L : Array Bool → Fam → Prop) : Nat → Array Bool → Fam → Prop
 | 0, listed, A => L listed A
 | f + 1, listed, A =>
  Region.ready md ops listed ≠ [] ∧ ∀ i ∈ Region.ready md ops listed, i < n ∧ flOpA P md ops B w0 Zs i (r7 P md ops B w0 Zs n L f (listed.setIfInBounds i true)) A
theorem l6 {n g : Nat} {L : Array Bool → Fam → Prop} {Q' : Exit → Act → World → Prop} (hB : B ≤ w0.heap.size)
  (hL : ∀ listed A γ w, Facts B w0 Zs listed γ w → L listed A → wpAny P md ops Q' g listed (A γ) w) :
  ∀ (f : Nat) (listed : Array Bool) (A : Fam) (γ : m0) (w : World), listed.size = ops.size → x7 listed A → Facts B w0 Zs listed γ w → r7 P md ops B w0 Zs n L f listed A → wpAny P md ops Q' (f + g) listed (A γ) w
 | 0, listed, A, γ, w, _, _, hF, h => by rw [Nat.zero_add]; exact hL _ _ _ _ hF h
 | f + 1, listed, A, γ, w, hsz, hA, hF, h => by
  rw [show f + 1 + g = (f + g) + 1 by omega]
  refine ⟨fun h0 => absurd h0 h.1, fun i hi => ?_⟩
  have hh := (h.2 i hi).2
  obtain ⟨hun, o, ho, hall⟩ := mem_ready.1 hi
  have hin : i < ops.size := (Array.getElem?_eq_some_iff.1 ho).1
  have hnow : ∀ j, listed.getD j false = true → (listed.setIfInBounds i true).getD j false = true := fun j hj => by
   by_cases e : i = j
   ·subst e; simp [Array.getD, hsz, hin]
   ·rw [getD_set_ne false e]; exact hj
  have hset : (listed.setIfInBounds i true).getD i false = true := by simp [Array.getD, hsz, hin]
  have hsz' : (listed.setIfInBounds i true).size = ops.size := by simpa using hsz
  unfold flOpA at hh
  unfold wpOp
  simp only [ho] at hh ⊢
  obtain ⟨v, hv, hk⟩ := hh
  rcases hv with ⟨Z, fv, hz, rfl, hg⟩ | ⟨hz, u, rfl, hg⟩
  ·obtain ⟨hw, hx⟩ := hg γ
   simp only [hw, if_true]
   refine .inl ?_
   unfold Oper.wp
   rw [hx w hF.below]
   simp only [Oper.upon]
   have hF' := hF.made hB hz (getD_both hun)
   have hA' : x7 (listed.setIfInBounds i true) (A.put o.dst (fun β => fv (β i))) := fun β β' hb => by
    show (A β).put o.dst (fv (β i)) = (A β').put o.dst (fv (β' i))
    rw [hA β β' (fun j hj => hb j (hnow j hj)), hb i hset]
   have := l6 hB hL f _ _ _ _ hsz' hA' hF' hk
   have e : (A.put o.dst (fun β => fv (β i))) (fun j => if j = i then w.heap.size else γ j) = (A γ).put o.dst (fv w.heap.size) := by
    show (A _).put o.dst _ = _
    rw [hA _ γ (fun j hj => by
     by_cases e : j = i
     ·subst e; rw [getD_both hun] at hj; cases hj
     ·simp [e])]
    simp
   rw [e] at this
   exact this
  ·have hA' : x7 (listed.setIfInBounds i true) (A.put o.dst (fun _ => u)) := fun β β' hb => by
    show (A β).put o.dst u = (A β').put o.dst u
    rw [hA β β' (fun j hj => hb j (hnow j hj))]
   rcases hg γ with ⟨hw, hx⟩ | ⟨hw, rfl⟩
   ·simp only [hw, if_true]
    refine .inl ?_
    unfold Oper.wp
    have hg' := hx w hF.below (fun e he hb Z hZ => (hF.blk e.on Z hZ (hall e he hb)).1)
    generalize (execOp (A γ).eval o).run P w = r at hg' ⊢
    cases r with
    | ok m w' =>
     cases m <;> simp only [aa4] at hg' <;> simp only [Oper.upon]
     case enter f' args => exact hg'.mono fun e w'' ⟨he, hs⟩ => by subst he; exact l6 hB hL f _ _ _ _ hsz' hA' (hF.plain hB hz hs) hk
     all_goals (obtain ⟨rfl, hs⟩ := hg'; exact l6 hB hL f _ _ _ _ hsz' hA' (hF.plain hB hz hs) hk)
    | halt x w' => simp only [aa4] at hg'
   ·simp only [hw, Bool.false_eq_true, if_false]
    exact l6 hB hL f _ _ _ _ hsz' hA' (hF.plain hB hz (Below.refl _ _)) hk
theorem w2 {n i : Nat} {oi : Oper} {v : m0 → Value} {L : Array Bool → Fam → Prop} {Inv : Array Bool → Prop} (hi : ops[i]? = some oi) (hsel : ∀ (j : Nat) (o : Oper) cs b, ops[j]? = some o → o.op ≠ .select cs b)
  (hr : HeadRule md ops n Inv) (hin : i < n) (hdone : ∀ listed A, L listed A → ∀ j ∈ Region.ready md ops listed, n ≤ j) :
  ∀ (f : Nat) (listed : Array Bool) (A : Fam), Inv listed →
   (∀ j oj, ops[j]? = some oj → j ≠ i → listed.getD j true = false → (∀ e ∈ oj.after, Region.binds md e = true → e.on ≠ i) → oi.apart ops oj = true) →
   i ∈ Region.ready md ops listed → j9 P md ops B w0 Zs i oi v A →
   r7 P md ops B w0 Zs n L f (listed.setIfInBounds i true) (A.put oi.dst v) → r7 P md ops B w0 Zs n L (f + 1) listed A := by
 intro f
 induction f with
 | zero =>
  intro listed A inv _ hri hy H
  refine ⟨fun h => (by rw [h] at hri; cases hri), fun j hj => ?_⟩
  have hjn := hr.first listed i inv hin (mem_ready.1 hri).1 j hj
  refine ⟨hjn, ?_⟩
  by_cases hji : j = i
  ·subst hji; exact hy.toOp hi H
  ·have := hdone _ _ H j (ready_mono hj hji)
   omega
 | succ f ih =>
  intro listed A inv hfree hri hy H
  refine ⟨fun h => (by rw [h] at hri; cases hri), fun j hj => ?_⟩
  have hjn := hr.first listed i inv hin (mem_ready.1 hri).1 j hj
  refine ⟨hjn, ?_⟩
  by_cases hji : j = i
  ·subst hji; exact hy.toOp hi H
  ·have h1 := (H.2 j (ready_mono hj hji)).2
   obtain ⟨hjun, oj, hoj, hall⟩ := mem_ready.1 hj
   have hnot : ∀ e ∈ oj.after, Region.binds md e = true → e.on ≠ i := fun e he hb heq => by
    have h1 := hall e he hb
    rw [heq, getD_both (mem_ready.1 hri).1] at h1
    cases h1
   have h2 := aaw hoj (hfree j oj hoj hji hjun hnot) (fun cs b => hsel i oi cs b hi) (fun cs b => hsel j oj cs b hoj) hy h1
   refine z8 (fun A' h3 => ih (listed.setIfInBounds j true) A' (hr.step _ _ inv hj hjn) ?_ (ready_mono hri (Ne.symm hji)) h3.1 ?_) h2
   ·intro k ok hk hki hun hno
    refine hfree k ok hk hki ?_ hno
    by_cases hjk : j = k
    ·subst hjk; exact hjun
    ·rw [getD_set_ne true hjk] at hun; exact hun
   ·rw [Array.setIfInBounds_comm _ _ hji]
    exact h3.2
def wpFlowA (P : Program) (md : Region.Mode) (ops : Array Oper) (B : Nat) (w0 : World) (Zs : Nat → Option Obj) (Q : Fam → Prop) : List Oper → Nat → Fam → Prop
 | [], _, A => Q A
 | o :: rest, k, A => ∃ v, j9 P md ops B w0 Zs k o v A ∧ wpFlowA P md ops B w0 Zs Q rest (k + 1) (A.put o.dst v)
theorem w7 {n g : Nat} {L : Array Bool → Fam → Prop} {Lq : Fam → Prop} {Inv : Array Bool → Prop} (hsel : Region.noSelect ops = true) (hr : HeadRule md ops n Inv)
  (hdone : ∀ listed A, L listed A → ∀ j ∈ Region.ready md ops listed, n ≤ j)
  (hend : ∀ listed A, Region.seqB md ops g n listed = true → (∀ j, j < n → listed.getD j false = true) → Lq A → L listed A) :
  ∀ (l : List Oper) (k : Nat) (listed : Array Bool) (A : Fam), (∀ j, j < l.length → l[j]? = ops[k + j]?) → k + l.length = n → Inv listed → listed.size = ops.size → (∀ j, j < k → listed.getD j false = true) →
  Region.lexHead md ops g l.length k listed = true → wpFlowA P md ops B w0 Zs Lq l k A → r7 P md ops B w0 Zs n L l.length listed A
 | [], k, listed, A, _, hk, _, _, hls, hB, h => by
  have : k = n := by simpa using hk
  subst this
  exact hend _ _ (by simpa [Region.lexHead] using hB) hls h
 | o :: l, k, listed, A, hl, hk, inv, hsz, hls, hB, h => by
  have h0 : ops[k]? = some o := by simpa using (hl 0 (by simp)).symm
  have hin : k < ops.size := (Array.getElem?_eq_some_iff.1 h0).1
  simp only [List.length_cons, Region.lexHead, Bool.and_eq_true] at hB
  obtain ⟨⟨hrd, hf⟩, hB'⟩ := hB
  have hkn : k < n := by simp only [List.length_cons] at hk; omega
  have hr' : k ∈ Region.ready md ops listed := by simpa using hrd
  obtain ⟨v, hy, hK⟩ := h
  refine w2 h0 (Region.noSelect_spec hsel) hr hkn hdone l.length listed A inv (Region.free_spec h0 hf) hr' hy
   (w7 hsel hr hdone hend l (k + 1) _ _ (fun j hj => by have := hl (j + 1) (by simp; omega); simpa [Nat.add_assoc, Nat.add_comm 1 j] using this) (by simp only [List.length_cons] at hk; omega) (hr.step _ _ inv hr' hkn) (by simpa using hsz) (fun j hj => ?_) hB' hK)
  by_cases e : k = j
  ·subst e; simp [Array.getD, hsz, hin]
  ·rw [getD_set_ne false e]; exact hls j (by omega)
end
end Go.Proofs.YtaaepdlajkdneaaDoor.SC
namespace Go.Proofs.YtaaepdlajkdneaaDoor
open Go Go.RowKit
variable {P : Program} {ops : Array Oper} {Q : Exit → Act → World → Prop} {C : Cx} {H : List HA} {rest : List Oper} {o : Oper}
def FZ (P : Program) (ops : Array Oper) (T : World → m0 → Act → Prop) (C : Cx) (L : FSl) (H : List HA) (zl : List (Nat × Obj)) (k : Nat) (l : List Oper) : Prop :=
 ∀ (A : Fam) (w0 : World), (∀ β, Fr C (L β) (A β)) → Hp C H w0 → SC.wpFlowA P .any ops w0.heap.size w0 (u1 zl) (fun A => ∀ γ, T w0 γ (A γ)) l k A
variable {T : World → m0 → Act → Prop} {L : FSl} {zl : List (Nat × Obj)} {k : Nat}
theorem FZ.val {v : Value} {d : Nat} (hv : ∀ β, OV P C (L β) H o v) (hz : u1 zl k = none) (hw : ∀ β, m3 ops (L β) o = some true) (hd : o.dst = some d) (hn : Nat.blt d C.n = true) (h : FZ P ops T C (fun β => (d, v) :: L β) H zl (k + 1) rest) : FZ P ops T C L H zl k (o :: rest) := by
 intro A w0 hf hp
 refine ⟨fun _ => v, .inr ⟨hz, v, rfl, fun β => .inl ⟨i8 (hf β) (hw β), fun w hb _ => ?_⟩⟩, ?_⟩
 ·rw [hv β _ w (hf β) (hp.below hb)]
  exact ⟨rfl, Below.refl _ _⟩
 ·rw [hd]; exact h _ w0 (fun β => (hf β).put hn v) hp
theorem FZ.make {Z : Obj} {f : Nat → Value} {d : Nat} (hv : ∀ β, MV P C (L β) H o Z f) (hz : u1 zl k = some Z) (hw : ∀ β, m3 ops (L β) o = some true) (hd : o.dst = some d) (hn : Nat.blt d C.n = true) (h : FZ P ops T C (fun β => (d, f (β k)) :: L β) H zl (k + 1) rest) : FZ P ops T C L H zl k (o :: rest) := by
 intro A w0 hf hp
 refine ⟨fun β => f (β k), .inl ⟨Z, f, hz, rfl, fun β => ⟨i8 (hf β) (hw β), fun w hb => hv β _ w (hf β) (hp.below hb)⟩⟩, ?_⟩
 rw [hd]; exact h _ w0 (fun β => (hf β).put hn _) hp
theorem FZ.call {f : FuncId} {xs : List Operand} {ats : Array TypeId} {d : Nat} {ty : TypeId} {p : String} {e : Array Edge} {g : Option (Nat × Bool)} {vs : List Value} {R : List (Nat × Obj)} {v : Value} (he : p9 P f = true) (hx : ∀ β, evs (L β) xs = some vs)
  (hc : j8 P f vs R [] (Ret v [])) (hR : ROk C H R) (hz : u1 zl k = none) (hw : ∀ β, m3 ops (L β) ⟨some d, .call ⟨.value (.func f), xs.toArray, ats⟩, ty, p, e, g⟩ = some true) (hn : Nat.blt d C.n = true)
  (h : FZ P ops T C (fun β => (d, v) :: L β) H zl (k + 1) rest) : FZ P ops T C L H zl k (⟨some d, .call ⟨.value (.func f), xs.toArray, ats⟩, ty, p, e, g⟩ :: rest) := by
 intro A w0 hf hp
 refine ⟨fun _ => v, .inr ⟨hz, v, rfl, fun β => .inl ⟨i8 (hf β) (hw β), fun w hb _ => ?_⟩⟩, ?_⟩
 ·rw [w6 he (hf β) (hx β)]
  have hpw := hp.below hb
  refine (hc w [] rfl List.nodup_nil (fun k hk => by cases hk) (fun q hq => ?_)).mono ?_
  ·refine ⟨?_, by simp⟩
   rcases hR.all q hq with ⟨i, hi⟩ | hm
   ·exact hpw.blk hi
   ·exact hpw.old hm
  ·rintro en w' ⟨H', hS, hh⟩
   rcases hS with ⟨r, rfl, hS⟩ | ⟨c, rfl, hS⟩
   ·cases hS; exact ⟨rfl, hh.toBelow⟩
   ·cases hS
 ·exact h _ w0 (fun β => (hf β).put hn v) hp
theorem FZ.weak {l : List Oper} {L' : FSl} (hs : ∀ β, Sub (L β) (L' β)) (h : FZ P ops T C L' H zl k l) : FZ P ops T C L H zl k l := fun A w0 hf hp => h A w0 (fun β => (hf β).sub (hs β)) hp
theorem FZ.nil (h : ∀ (A : Fam) (w0 : World), (∀ β, Fr C (L β) (A β)) → Hp C H w0 → ∀ γ, T w0 γ (A γ)) : FZ P ops T C L H zl k [] := fun A w0 hf hp => h A w0 hf hp
end Go.Proofs.YtaaepdlajkdneaaDoor
namespace Go.Proofs.YtaaepdlajkdneaaDoor
open Go Go.RowKit
variable {P : Program} {ops : Array Oper} {Q : Exit → Act → World → Prop} {C : Cx} {L : Sl} {H : List HA} {rest : List Oper} {o : Oper}
def acs (P : Program) (f : FuncId) (args : List Value) (u u' : FrameMode) (R : List (Nat × Obj)) (A : List HA) (S : Out → Prop) : Prop :=
 ∀ w M, Own w A M → M.Nodup → (∀ k ∈ M, k < w.heap.size) → (∀ p ∈ R, w.heap[p.1]? = some p.2 ∧ p.1 ∉ M) → CallsD P f args.toArray u w (fun e u'' w' => u'' = u' ∧ ∃ H', ac2 S e H' ∧ Hp ⟨0, [], w, M, R⟩ H' w')
def akk (u : FrameMode) (v : Value) (u' : FrameMode) : Prop :=
 (u = .returning ∧ v = .nilIface ∧ u' = .returning) ∨ (∃ x, u = .panicking [{ v := x, recovered := false }] ∧ v = x ∧ u' = .panicking [{ v := x, recovered := true }])
theorem afi {f : FuncId} {fn : Func} {y : Code} {args : List Value} {R : List (Nat × Obj)} {A : List HA} {S : Out → Prop} {L0 : Sl} {n id d d2 : Nat} {ats : Array TypeId} {t1 t2 : TypeId} {p1 p2 : String} {e1 e2 : Array Edge} {u u' : FrameMode} {v : Value}
  (hf : P.funcs[f]? = some fn) (hb : fn.body = some (.seq (.region id [⟨some d, .call ⟨.builtin .recover, #[], ats⟩, t1, p1, e1, none⟩, ⟨some d2, .assign (.tmp d), t2, p2, e2, none⟩].toArray false) y)) (hnt : fn.ntmps = n) (hl : Nat.ble args.length n = true)
  (hL : (List.range args.length).zip args = L0) (hd : Nat.blt d n = true) (hd2 : Nat.blt d2 n = true) (hu : akk u v u')
  (h : ∀ w0 M Q, Ends P fn ⟨n, [], w0, M, R⟩ S Q → WC P y Q ⟨n, [], w0, M, R⟩ ((d2, v) :: (d, v) :: L0) A) : acs P f args u u' R A S := by
 intro w M hO hn hlt hR
 subst hnt
 have hle : args.length ≤ fn.ntmps := Nat.le_of_ble_eq_true hl
 refine callsD_of_wpS hf hb fun c₀ cs hc => ?_
 refine wpS_seq (wpS_region ?_)
 have hd' : d < fn.ntmps := Nat.blt_eq ▸ hd
 have hfr : Fr ⟨fn.ntmps, [], w, M, R⟩ L0 ⟨args.toArray ++ Array.replicate (fn.ntmps - args.toArray.size) undef, []⟩ := by
  refine ⟨rfl, by simp; omega, ?_⟩
  intro i x hg
  subst hL
  have hm := Sl.get_mem hg
  obtain ⟨j, hj⟩ := List.mem_iff_getElem?.1 hm
  rw [List.getElem?_zip_eq_some] at hj
  obtain ⟨h1, h2⟩ := hj
  have hij : j = i := by
   have h3 := (List.getElem?_eq_some_iff.1 h1)
   obtain ⟨h4, h5⟩ := h3
   simp at h5; exact h5
  subst hij
  have hjl : j < args.length := (List.getElem?_eq_some_iff.1 h2).1
  simp only [List.size_toArray]
  rw [Array.getElem?_append_left (by simpa using hjl)]
  simpa using h2
 generalize (⟨args.toArray ++ Array.replicate (fn.ntmps - args.toArray.size) undef, []⟩ : Act) = a0 at hfr ⊢
 have hfr2 := (hfr.put hd v).put hd2 v
 have hp := Hp.start fn.ntmps [] w hO hn hlt hR
 have hrun : (execOp a0.eval ⟨some d, .call ⟨.builtin .recover, #[], ats⟩, t1, p1, e1, none⟩).run P w = .ok .recover w := by
  simp [execOp, resolve, invoke, builtin]
 have hev : (a0.put (some d) v).eval (.tmp d) = v := (hfr.put hd v).ev (x := .tmp d) (by simp [ev, Sl.get])
 have hrun2 : (execOp (a0.put (some d) v).eval ⟨some d2, .assign (.tmp d), t2, p2, e2, none⟩).run P w = .ok (.value v) w := by
  simp only [execOp, hev, Sem.run_pure]
 have key : ∀ cs', (match recoverD (c₀ :: cs) with | some (x, c') => x = v ∧ c' = cs' | none => .nilIface = v ∧ (c₀ :: cs) = cs') → cs' = { c₀ with mode := u' } :: cs →
   wpOpsS P [⟨some d, .call ⟨.builtin .recover, #[], ats⟩, t1, p1, e1, none⟩, ⟨some d2, .assign (.tmp d), t2, p2, e2, none⟩].toArray (Exit.thenS (y.wpS P (bodyPostS P fn c₀ cs fun e u'' w' => u'' = u' ∧ ∃ H', ac2 S e H' ∧ Hp ⟨0, [], w, M, R⟩ H' w')) (bodyPostS P fn c₀ cs fun e u'' w' => u'' = u' ∧ ∃ H', ac2 S e H' ∧ Hp ⟨0, [], w, M, R⟩ H' w')) [0, 1] a0 (c₀ :: cs) w := by
  intro cs' hrec hcs'
  have hy : y.wpS P (bodyPostS P fn c₀ cs fun e u'' w' => u'' = u' ∧ ∃ H', ac2 S e H' ∧ Hp ⟨0, [], w, M, R⟩ H' w') ((a0.put (some d) v).put (some d2) v) cs' w := by
   subst hcs'
   refine wpS_of_wp ?_
   refine h w M _ ?_ _ _ hfr2 hp
   refine ⟨fun idx hi he hS hr a w' hfr hp => ?_, fun idx hi he hS hr a w' hfr hp => ?_, fun idx hi he hS a w' hfr hp => ?_⟩
   ·exact ⟨hfr.defers, u', rfl, _, hr a w' hfr hp, rfl, _, .inl ⟨_, rfl, hS⟩, he ▸ (hp.pick idx hi).ctx⟩
   ·exact ⟨hfr.defers, u', rfl, _, hr a w' hfr hp, rfl, _, .inl ⟨_, rfl, hS⟩, he ▸ (hp.pick idx hi).ctx⟩
   ·exact ⟨hfr.defers, u', rfl, rfl, _, .inr ⟨_, rfl, hS⟩, he ▸ (hp.pick idx hi).ctx⟩
  have hy2 : wpOpsS P [⟨some d, .call ⟨.builtin .recover, #[], ats⟩, t1, p1, e1, none⟩, ⟨some d2, .assign (.tmp d), t2, p2, e2, none⟩].toArray (Exit.thenS (y.wpS P (bodyPostS P fn c₀ cs fun e u'' w' => u'' = u' ∧ ∃ H', ac2 S e H' ∧ Hp ⟨0, [], w, M, R⟩ H' w')) (bodyPostS P fn c₀ cs fun e u'' w' => u'' = u' ∧ ∃ H', ac2 S e H' ∧ Hp ⟨0, [], w, M, R⟩ H' w')) [1] (a0.put (some d) v) cs' w := by
   simp only [wpOpsS, List.getElem?_toArray, List.getElem?_cons_succ, List.getElem?_cons_zero, Region.wanted, if_true, hrun2, Oper.upon]
   exact hy
  unfold wpOpsS
  simp only [List.getElem?_toArray, List.getElem?_cons_zero, Region.wanted, if_true, hrun]
  cases hr : recoverD (c₀ :: cs) with
  | none => rw [hr] at hrec; obtain ⟨rfl, rfl⟩ := hrec; exact hy2
  | some q => rw [hr] at hrec; obtain ⟨x, c'⟩ := q; obtain ⟨rfl, rfl⟩ := hrec; exact hy2
 have hrange : List.range ([⟨some d, .call ⟨.builtin .recover, #[], ats⟩, t1, p1, e1, none⟩, ⟨some d2, .assign (.tmp d), t2, p2, e2, none⟩] : List Oper).toArray.size = [0, 1] := rfl
 rw [hrange]
 rcases hu with ⟨rfl, rfl, rfl⟩ | ⟨x, rfl, rfl, rfl⟩
 ·refine key _ ?_ rfl
  have : recoverD (c₀ :: cs) = none := by simp [recoverD, hc]
  rw [this]
  exact ⟨rfl, by cases c₀; simp_all⟩
 ·refine key _ ?_ rfl
  have : recoverD (c₀ :: cs) = some (v, { c₀ with mode := .panicking [{ v, recovered := true }] } :: cs) := by simp [recoverD, hc]
  rw [this]
  exact ⟨rfl, rfl⟩
theorem alt {x y : Code} (h : ∀ K : Act → World → Prop, (∀ C L H, WC P y Q C L H → KX K C L H) → WC P x (Exit.then K Q) C L H) : WC P (.seq x y) Q C L H :=
 fun a w hf hp => wp_seq (h _ (fun _ _ _ hy => hy) a w hf hp)
theorem OV.makeFunc {f : FuncId} {xs : List Operand} {vs : List Value} {ty : TypeId} {d : Option Tmp} {p : String} {e : Array Edge} {g : Option (Nat × Bool)} (hx : evs L xs = some vs) : OV P C L H ⟨d, .makeFunc (.func f) #[] xs.toArray, ty, p, e, g⟩ (.func (.func f) #[] vs.toArray) := fun a w hf _ => by
 simp [execOp, Instr.makeFunc, abo hf hx]
theorem WL.defer {x : Operand} {ats : Array TypeId} {ty : TypeId} {p : String} {e : Array Edge} {d : Option Tmp} {f : FuncId} {vs : List Value} (hx : ev L x = some (.func (.func f) #[] vs.toArray)) (hd : d = none)
  (h : WL P ops Q { C with D := ⟨.fn (.func f) vs.toArray, #[]⟩ :: C.D } L H rest) : WL P ops Q C L H (⟨d, .defer ⟨.value x, #[], ats⟩, ty, p, e, none⟩ :: rest) := by
 intro a w hf hp
 subst hd
 refine m6 (by simp [Region.wanted]) ?_
 unfold Oper.wp
 have : (execOp a.eval ⟨none, .defer ⟨.value x, #[], ats⟩, ty, p, e, none⟩).run P w = .ok (.defer ⟨.fn (.func f) vs.toArray, #[]⟩) w := by
  simp [execOp, resolve, hf.ev hx, Deferred.ofValue]
 rw [this]
 simp only [Oper.upon, Act.put]
 exact h _ _ ⟨by simp [hf.defers], hf.size, hf.get⟩ hp.ctx
structure EndsD (P : Program) (fn : Func) (n : Nat) (w0 : World) (M : List Nat) (R : List (Nat × Obj)) (S : Out → Prop) (Q : Exit → Act → World → Prop) : Prop where
 ret : ∀ {D : List Deferred} {L : Sl} {H : List HA}, (∀ a w, Fr ⟨n, D, w0, M, R⟩ L a → Hp ⟨n, D, w0, M, R⟩ H w → Leaves P fn a.tmps (fun e w' => ∃ H', ac2 S e H' ∧ Hp ⟨0, [], w0, M, R⟩ H' w') D .returning w) → QX Q .ret ⟨n, D, w0, M, R⟩ L H
 norm : ∀ {D : List Deferred} {L : Sl} {H : List HA}, (∀ a w, Fr ⟨n, D, w0, M, R⟩ L a → Hp ⟨n, D, w0, M, R⟩ H w → Leaves P fn a.tmps (fun e w' => ∃ H', ac2 S e H' ∧ Hp ⟨0, [], w0, M, R⟩ H' w') D .returning w) → QX Q .normal ⟨n, D, w0, M, R⟩ L H
 pan : ∀ {D : List Deferred} {L : Sl} {H : List HA} {c : List PanicEntry}, (∀ a w, Fr ⟨n, D, w0, M, R⟩ L a → Hp ⟨n, D, w0, M, R⟩ H w → Leaves P fn a.tmps (fun e w' => ∃ H', ac2 S e H' ∧ Hp ⟨0, [], w0, M, R⟩ H' w') D (.panicking c) w) → QX Q (.panic c) ⟨n, D, w0, M, R⟩ L H
theorem agf {f : FuncId} {fn : Func} {c : Code} {args : List Value} {R : List (Nat × Obj)} {A : List HA} {S : Out → Prop} {L0 : Sl} {n : Nat} (hf : P.funcs[f]? = some fn) (hb : fn.body = some c) (hnt : fn.ntmps = n) (hl : Nat.ble args.length n = true)
  (hL : (List.range args.length).zip args = L0)
  (h : ∀ w0 M Q, EndsD P fn n w0 M R S Q → WC P c Q ⟨n, [], w0, M, R⟩ L0 A) : j8 P f args R A S := by
 intro w M hO hn hlt hR
 subst hnt
 have hle : args.length ≤ fn.ntmps := Nat.le_of_ble_eq_true hl
 refine calls_of_wp_defers hf hb ?_
 refine h w M _ ?_ _ _ ⟨rfl, ?_, ?_⟩ (Hp.start _ _ w hO hn hlt hR)
 ·refine ⟨fun hh a w' hfr hp => ?_, fun hh a w' hfr hp => ?_, fun hh a w' hfr hp => ?_⟩
  all_goals
   have := hh a w' hfr hp
   have hd := hfr.defers
   simp only at hd
   rw [← hd] at this
   exact this
 ·simp; omega
 ·intro i v hg
  subst hL
  have hm := Sl.get_mem hg
  obtain ⟨j, hj⟩ := List.mem_iff_getElem?.1 hm
  rw [List.getElem?_zip_eq_some] at hj
  obtain ⟨h1, h2⟩ := hj
  have hij : j = i := by
   have h3 := (List.getElem?_eq_some_iff.1 h1)
   obtain ⟨h4, h5⟩ := h3
   simp at h5; exact h5
  subst hij
  have hjl : j < args.length := (List.getElem?_eq_some_iff.1 h2).1
  simp only [List.size_toArray]
  rw [Array.getElem?_append_left (by simpa using hjl)]
  simpa using h2
theorem aio {fn : Func} {n : Nat} {w0 : World} {M : List Nat} {R R' : List (Nat × Obj)} {S : Out → Prop} {H' A A' Rest : List HA} {v vc : Value} {f : FuncId} {vs : List Value} {u u' : FrameMode} {H : List HA} (idx0 : List Nat) (hi0 : q8 idx0 = true) (hH : sel H idx0 = A ++ Rest)
  (hent : p9 P f = true) (hc : acs P f vs u u' R' A (Ret vc A')) (hrun : u ≠ .run) (hset : settle u' = .returning) (hR : ROk ⟨n, [⟨.fn (.func f) vs.toArray, #[]⟩], w0, M, R⟩ Rest R')
  (idx : List Nat) (hi : q8 idx = true) (he : sel (A' ++ Rest) idx = H') (hS : S (.ret v H')) (hr : l7 P fn ⟨n, [⟨.fn (.func f) vs.toArray, #[]⟩], w0, M, R⟩ L (A' ++ Rest) v) :
  ∀ a w, Fr ⟨n, [⟨.fn (.func f) vs.toArray, #[]⟩], w0, M, R⟩ L a → Hp ⟨n, [⟨.fn (.func f) vs.toArray, #[]⟩], w0, M, R⟩ H w → Leaves P fn a.tmps (fun e w' => ∃ H', ac2 S e H' ∧ Hp ⟨0, [], w0, M, R⟩ H' w') [⟨.fn (.func f) vs.toArray, #[]⟩] u w := by
 intro a w hf hp
 have hp := hH ▸ hp.pick idx0 hi0
 refine ⟨hrun, .func f, vs.toArray, f, vs.toArray, rfl, by simp [invoke, abu hent], ?_⟩
 obtain ⟨F, h1, h2, h3⟩ := hp.own
 obtain ⟨F1, F2, rfl, hA, hB⟩ := h1.split
 have hnd := List.nodup_append.1 h2
 refine (hc w F1 hA hnd.1 (fun k hk => (h3 k (List.mem_append.2 (.inl hk))).1) ?_).mono ?_
 ·intro q hq
  rcases hR.all q hq with ⟨i, hi⟩ | hm
  ·refine ⟨hp.blk (i := A.length + i) (by rw [List.getElem?_append_right (by omega)]; simpa using hi), fun hm => ?_⟩
   exact hnd.2.2 q.1 hm q.1 (hB.mem_blk hi) rfl
  ·refine ⟨hp.old hm, fun hk => ?_⟩
   have hro := hp.ro q hm
   have hlt := s9 hro.1
   rcases (h3 q.1 (List.mem_append.2 (.inl hk))).2 with h4 | h4
   ·omega
   ·exact hro.2 h4
 ·rintro en u'' w' ⟨rfl, H'', hS', hh⟩
  rcases hS' with ⟨r, rfl, hS'⟩ | ⟨c, rfl, hS'⟩
  ·cases hS'
   have hp' := hp.call hB h2 h3 hh
   show Leaves P fn a.tmps _ [] (settle u'') w'
   rw [hset]
   exact ⟨v, hr a w' hf hp', _, .inl ⟨_, rfl, hS⟩, he ▸ (hp'.pick idx hi).ctx⟩
  ·cases hS'
theorem OV.assertIs {x : Operand} {t t' ty : TypeId} {d : Option Tmp} {p : String} {e : Array Edge} {g : Option (Nat × Bool)} {v : Value} {dd : TypeDesc} (hx : ev L x = some (.iface t' v)) (hu : P.underlying t' = some dd) (hn : (match dd with | .interface _ => false | _ => true) = true) : OV P C L H ⟨d, .typeAssert x t t' false, ty, p, e, g⟩ v := fun a w hf _ => by
 have : (Instr.typeAssert (.iface t' v) t t' false).run P w = .ok v w := by
  unfold Instr.typeAssert
  rw [Sem.run_bind, p7 hu]
  cases dd <;> simp_all
 simp [execOp, hf.ev hx, this]
theorem OV.neqNil {x y : Operand} {t t' ty tv : TypeId} {d : Option Tmp} {p : String} {e : Array Edge} {g : Option (Nat × Bool)} {v : Value} {ms : Array (String × TypeId)} (hx : ev L x = some (.iface tv v)) (hy : ev L y = some .nilIface) (hu : P.underlying t = some (.interface ms)) : OV P C L H ⟨d, .binOp .neq t x y t', ty, p, e, g⟩ (.bool true) := fun a w hf _ => by
 have h : binOp .neq t (.iface tv v) .nilIface = (do pure (.bool (!(← Op.equal t (.iface tv v) .nilIface)))) := rfl
 have h2 : (Op.equal t (.iface tv v) .nilIface).run P w = .ok false w := by
  unfold Op.equal Op.maxDepth Op.equalIn
  rw [Sem.run_bind, p7 hu]; rfl
 simp only [execOp, hf.ev hx, hf.ev hy, eqGuard_at_iface, h, Sem.run_bind, Sem.run_pure, Result.andThen_ok, h2]
 rfl
theorem OV.neqNil0 {x : Operand} {t t' ty : TypeId} {d : Option Tmp} {p : String} {e : Array Edge} {g : Option (Nat × Bool)} {ms : Array (String × TypeId)} (hx : ev L x = some .nilIface) (hu : P.underlying t = some (.interface ms)) : OV P C L H ⟨d, .binOp .neq t x (.const .nilIface) t', ty, p, e, g⟩ (.bool false) := fun a w hf _ => by
 have h : binOp .neq t .nilIface .nilIface = (do pure (.bool (!(← Op.equal t .nilIface .nilIface)))) := rfl
 have h2 : (Op.equal t .nilIface .nilIface).run P w = .ok true w := by
  unfold Op.equal Op.maxDepth Op.equalIn
  rw [Sem.run_bind, p7 hu]; rfl
 have hc : a.eval (.const .nilIface) = .nilIface := rfl
 simp only [execOp, hf.ev hx, hc, eqGuard_nil_constR, h, Sem.run_bind, Sem.run_pure, Result.andThen_ok, h2]
 rfl
theorem acs.weak {f : FuncId} {args : List Value} {u u' : FrameMode} {R : List (Nat × Obj)} {A : List HA} {S S' : Out → Prop} (h : acs P f args u u' R A S) (hs : ∀ o, S o → S' o) : acs P f args u u' R A S' := fun w M hO hn hl hr => (h w M hO hn hl hr).mono fun en u'' w' ⟨hu, H', hS, hh⟩ => ⟨hu, H', by
  rcases hS with ⟨r, e1, hS⟩ | ⟨c, e1, hS⟩
  ·exact .inl ⟨r, e1, hs _ hS⟩
  ·exact .inr ⟨c, e1, hs _ hS⟩, hh⟩
end Go.Proofs.YtaaepdlajkdneaaDoor
namespace Go.Proofs
open Go.Shelf
def Tryd.lays137_ren : Go.Shelf.Ren := ⟨fun | 137 => 31 | 217 => 36 | 266 => 46 | n => n, fun | 9 => 9 | 5 => 5 | 3 => 3 | n => n, fun | n => n⟩
theorem Tryd.lays137 : Go.Proofs.Lays.n137 Tryd.prog Tryd.lays137_ren := {
 mixed := by kernel_rfl
 f137 := Tryd.func31.trans (congrArg some (by kernel_rfl))
 f217 := Tryd.func36.trans (congrArg some (by kernel_rfl))
 f266 := Tryd.func46.trans (congrArg some (by kernel_rfl))
 t3 := Tryd.underlying3
 a3 := Tryd.isAgg3
 z3 := Tryd.sizeOf3
 v3 := Tryd.zeroValue3
 t5 := Tryd.underlying5
 a5 := Tryd.isAgg5
 z5 := Tryd.sizeOf5
 v5 := Tryd.zeroValue5
 t9 := Tryd.underlying9
 a9 := Tryd.isAgg9
 z9 := Tryd.sizeOf9
 v9 := Tryd.zeroValue9 }
open Go.RowKit in
theorem Tryd.strings_IndexByte (s : ByteArray) (c : Int) (w : World) :
  Calls Tryd.prog 31 #[.string s, .int .u8 c] w fun e w' => e = .returned (.int .i64 (Lib.indexByte s.data.toList c.toNat.toUInt8)) ∧ w' = w := Any.strings_IndexByte Tryd.lays137 s c w
def Tryd.lays172_ren : Go.Shelf.Ren := ⟨fun | 172 => 38 | 244 => 54 | 245 => 55 | 247 => 66 | 279 => 67 | 280 => 68 | 281 => 69 | 282 => 70 | 287 => 76 | 316 => 77 | 171 => 20 | 205 => 78 | 321 => 80 | 322 => 81 | 243 => 27 | 246 => 34 | 283 => 39 | 284 => 40 | 285 => 41 | 286 => 42 | 129 => 57 | 317 => 56 | 318 => 58 | 319 => 59 | 320 => 60 | 337 => 71 | 338 => 72 | n => n, fun | 9 => 9 | 3 => 3 | 75 => 71 | 76 => 72 | 4 => 4 | 5 => 5 | 167 => 101 | 37 => 51 | 0 => 0 | 85 => 102 | 2 => 2 | 168 => 104 | 53 => 57 | 175 => 109 | 46 => 80 | 210 => 113 | 127 => 124 | 145 => 127 | 143 => 125 | 21 => 21 | 171 => 74 | 173 => 77 | 212 => 90 | 51 => 91 | 20 => 20 | 213 => 92 | 232 => 115 | 233 => 116 | 80 => 128 | n => n, fun | 15 => 3 | 16 => 4 | 17 => 2 | 18 => 5 | 19 => 6 | n => n⟩
theorem Tryd.lays172 : Go.Proofs.Lays.n172 Tryd.prog Tryd.lays172_ren := {
 mixed := by kernel_rfl
 f129 := Tryd.func57.trans (congrArg some (by kernel_rfl))
 f171 := Tryd.func20.trans (congrArg some (by kernel_rfl))
 f172 := Tryd.func38.trans (congrArg some (by kernel_rfl))
 f205 := Tryd.func78.trans (congrArg some (by kernel_rfl))
 f243 := Tryd.func27.trans (congrArg some (by kernel_rfl))
 f244 := Tryd.func54.trans (congrArg some (by kernel_rfl))
 f245 := Tryd.func55.trans (congrArg some (by kernel_rfl))
 f246 := Tryd.func34.trans (congrArg some (by kernel_rfl))
 f247 := Tryd.func66.trans (congrArg some (by kernel_rfl))
 f279 := Tryd.func67.trans (congrArg some (by kernel_rfl))
 f280 := Tryd.func68.trans (congrArg some (by kernel_rfl))
 f281 := Tryd.func69.trans (congrArg some (by kernel_rfl))
 f282 := Tryd.func70.trans (congrArg some (by kernel_rfl))
 f283 := Tryd.func39.trans (congrArg some (by kernel_rfl))
 f284 := Tryd.func40.trans (congrArg some (by kernel_rfl))
 f285 := Tryd.func41.trans (congrArg some (by kernel_rfl))
 f286 := Tryd.func42.trans (congrArg some (by kernel_rfl))
 f287 := Tryd.func76.trans (congrArg some (by kernel_rfl))
 f316 := Tryd.func77.trans (congrArg some (by kernel_rfl))
 f317 := Tryd.func56.trans (congrArg some (by kernel_rfl))
 f318 := Tryd.func58.trans (congrArg some (by kernel_rfl))
 f319 := Tryd.func59.trans (congrArg some (by kernel_rfl))
 f320 := Tryd.func60.trans (congrArg some (by kernel_rfl))
 f321 := Tryd.func80.trans (congrArg some (by kernel_rfl))
 f322 := Tryd.func81.trans (congrArg some (by kernel_rfl))
 f337 := Tryd.func71.trans (congrArg some (by kernel_rfl))
 f338 := Tryd.func72.trans (congrArg some (by kernel_rfl))
 t0 := Tryd.underlying0
 a0 := Tryd.isAgg0
 z0 := Tryd.sizeOf0
 v0 := Tryd.zeroValue0
 t2 := Tryd.underlying2
 a2 := Tryd.isAgg2
 z2 := Tryd.sizeOf2
 v2 := Tryd.zeroValue2
 t3 := Tryd.underlying3
 a3 := Tryd.isAgg3
 z3 := Tryd.sizeOf3
 v3 := Tryd.zeroValue3
 t4 := Tryd.underlying4
 a4 := Tryd.isAgg4
 z4 := Tryd.sizeOf4
 v4 := Tryd.zeroValue4
 t5 := Tryd.underlying5
 a5 := Tryd.isAgg5
 z5 := Tryd.sizeOf5
 v5 := Tryd.zeroValue5
 t9 := Tryd.underlying9
 a9 := Tryd.isAgg9
 z9 := Tryd.sizeOf9
 v9 := Tryd.zeroValue9
 t20 := Tryd.underlying20
 a20 := Tryd.isAgg20
 z20 := Tryd.sizeOf20
 v20 := Tryd.zeroValue20
 t21 := Tryd.underlying21
 a21 := Tryd.isAgg21
 z21 := Tryd.sizeOf21
 v21 := Tryd.zeroValue21
 t37 := Tryd.underlying51
 a37 := Tryd.isAgg51
 z37 := Tryd.sizeOf51
 v37 := Tryd.zeroValue51
 t46 := Tryd.underlying80
 a46 := Tryd.isAgg80
 z46 := Tryd.sizeOf80
 v46 := Tryd.zeroValue80
 t51 := Tryd.underlying91
 a51 := Tryd.isAgg91
 z51 := Tryd.sizeOf91
 v51 := Tryd.zeroValue91
 t53 := Tryd.underlying57
 a53 := Tryd.isAgg57
 z53 := Tryd.sizeOf57
 v53 := Tryd.zeroValue57
 t75 := Tryd.underlying71
 a75 := Tryd.isAgg71
 z75 := Tryd.sizeOf71
 v75 := Tryd.zeroValue71
 t76 := Tryd.underlying72
 a76 := Tryd.isAgg72
 z76 := Tryd.sizeOf72
 v76 := Tryd.zeroValue72
 t85 := Tryd.underlying102
 a85 := Tryd.isAgg102
 z85 := Tryd.sizeOf102
 v85 := Tryd.zeroValue102
 t127 := Tryd.underlying124
 a127 := Tryd.isAgg124
 z127 := Tryd.sizeOf124
 v127 := Tryd.zeroValue124
 t143 := Tryd.underlying125
 a143 := Tryd.isAgg125
 z143 := Tryd.sizeOf125
 v143 := Tryd.zeroValue125
 t145 := Tryd.underlying127
 a145 := Tryd.isAgg127
 z145 := Tryd.sizeOf127
 v145 := Tryd.zeroValue127
 t167 := Tryd.underlying101
 a167 := Tryd.isAgg101
 z167 := Tryd.sizeOf101
 v167 := Tryd.zeroValue101
 t168 := Tryd.underlying104
 a168 := Tryd.isAgg104
 z168 := Tryd.sizeOf104
 v168 := Tryd.zeroValue104
 t171 := Tryd.underlying74
 a171 := Tryd.isAgg74
 z171 := Tryd.sizeOf74
 v171 := Tryd.zeroValue74
 t173 := Tryd.underlying77
 a173 := Tryd.isAgg77
 z173 := Tryd.sizeOf77
 v173 := Tryd.zeroValue77
 t175 := Tryd.underlying109
 a175 := Tryd.isAgg109
 z175 := Tryd.sizeOf109
 v175 := Tryd.zeroValue109
 t210 := Tryd.underlying113
 a210 := Tryd.isAgg113
 z210 := Tryd.sizeOf113
 v210 := Tryd.zeroValue113
 t212 := Tryd.underlying90
 a212 := Tryd.isAgg90
 z212 := Tryd.sizeOf90
 v212 := Tryd.zeroValue90
 t213 := Tryd.underlying92
 a213 := Tryd.isAgg92
 z213 := Tryd.sizeOf92
 t232 := Tryd.underlying115
 a232 := Tryd.isAgg115
 z232 := Tryd.sizeOf115
 v232 := Tryd.zeroValue115
 t233 := Tryd.underlying116
 a233 := Tryd.isAgg116
 z233 := Tryd.sizeOf116
 v233 := Tryd.zeroValue116
 g15 := by kernel_rfl
 g16 := by kernel_rfl
 g17 := by kernel_rfl
 g18 := by kernel_rfl
 g19 := by kernel_rfl }
open Go.RowKit in
theorem Tryd.strconv_Atoi (s : ByteArray) (n : Int) (hl : s.size ≤ 18) (h : Lib.atoi s.data.toList = some n) (w : World) :
  Calls Tryd.prog 38 #[.string s] w fun e w' => e = .returned (.tuple #[.int .i64 n, .nilIface]) ∧ ∃ t, w' = Lib.bytesWorld w 5 t := Any.strconv_Atoi Tryd.lays172 s n hl h w
def Tryd.laysM171_ren : Go.Shelf.Ren := ⟨fun | 171 => 20 | 243 => 27 | 246 => 34 | 283 => 39 | 284 => 40 | 285 => 41 | 286 => 42 | 129 => 57 | 317 => 56 | 318 => 58 | 319 => 59 | 320 => 60 | 337 => 71 | 338 => 72 | n => n, fun | 3 => 3 | 9 => 9 | 2 => 2 | 4 => 4 | 171 => 74 | 0 => 0 | 53 => 57 | 37 => 51 | 5 => 5 | 173 => 77 | 212 => 90 | 51 => 91 | 20 => 20 | 213 => 92 | 46 => 80 | 232 => 115 | 233 => 116 | n => n, fun | 17 => 2 | 18 => 5 | 19 => 6 | n => n⟩
theorem Tryd.laysM171 : Go.Proofs.LaysM.n171 Tryd.prog Tryd.laysM171_ren := {
 mixed := by kernel_rfl
 f129 := Tryd.func57.trans (congrArg some (by kernel_rfl))
 f171 := Tryd.func20.trans (congrArg some (by kernel_rfl))
 f243 := Tryd.func27.trans (congrArg some (by kernel_rfl))
 f246 := Tryd.func34.trans (congrArg some (by kernel_rfl))
 f283 := Tryd.func39.trans (congrArg some (by kernel_rfl))
 f284 := Tryd.func40.trans (congrArg some (by kernel_rfl))
 f285 := Tryd.func41.trans (congrArg some (by kernel_rfl))
 f286 := Tryd.func42.trans (congrArg some (by kernel_rfl))
 f317 := Tryd.func56.trans (congrArg some (by kernel_rfl))
 f318 := Tryd.func58.trans (congrArg some (by kernel_rfl))
 f319 := Tryd.func59.trans (congrArg some (by kernel_rfl))
 f320 := Tryd.func60.trans (congrArg some (by kernel_rfl))
 f337 := Tryd.func71.trans (congrArg some (by kernel_rfl))
 f338 := Tryd.func72.trans (congrArg some (by kernel_rfl))
 t0 := Tryd.underlying0
 a0 := Tryd.isAgg0
 z0 := Tryd.sizeOf0
 v0 := Tryd.zeroValue0
 t2 := Tryd.underlying2
 a2 := Tryd.isAgg2
 z2 := Tryd.sizeOf2
 v2 := Tryd.zeroValue2
 t3 := Tryd.underlying3
 a3 := Tryd.isAgg3
 z3 := Tryd.sizeOf3
 v3 := Tryd.zeroValue3
 t4 := Tryd.underlying4
 a4 := Tryd.isAgg4
 z4 := Tryd.sizeOf4
 v4 := Tryd.zeroValue4
 t5 := Tryd.underlying5
 a5 := Tryd.isAgg5
 z5 := Tryd.sizeOf5
 v5 := Tryd.zeroValue5
 t9 := Tryd.underlying9
 a9 := Tryd.isAgg9
 z9 := Tryd.sizeOf9
 v9 := Tryd.zeroValue9
 t20 := Tryd.underlying20
 a20 := Tryd.isAgg20
 z20 := Tryd.sizeOf20
 v20 := Tryd.zeroValue20
 t37 := Tryd.underlying51
 a37 := Tryd.isAgg51
 z37 := Tryd.sizeOf51
 v37 := Tryd.zeroValue51
 t46 := Tryd.underlying80
 a46 := Tryd.isAgg80
 z46 := Tryd.sizeOf80
 v46 := Tryd.zeroValue80
 t51 := Tryd.underlying91
 a51 := Tryd.isAgg91
 z51 := Tryd.sizeOf91
 v51 := Tryd.zeroValue91
 t53 := Tryd.underlying57
 a53 := Tryd.isAgg57
 z53 := Tryd.sizeOf57
 v53 := Tryd.zeroValue57
 t171 := Tryd.underlying74
 a171 := Tryd.isAgg74
 z171 := Tryd.sizeOf74
 v171 := Tryd.zeroValue74
 t173 := Tryd.underlying77
 a173 := Tryd.isAgg77
 z173 := Tryd.sizeOf77
 v173 := Tryd.zeroValue77
 t212 := Tryd.underlying90
 a212 := Tryd.isAgg90
 z212 := Tryd.sizeOf90
 v212 := Tryd.zeroValue90
 t213 := Tryd.underlying92
 a213 := Tryd.isAgg92
 z213 := Tryd.sizeOf92
 t232 := Tryd.underlying115
 a232 := Tryd.isAgg115
 z232 := Tryd.sizeOf115
 v232 := Tryd.zeroValue115
 t233 := Tryd.underlying116
 a233 := Tryd.isAgg116
 z233 := Tryd.sizeOf116
 v233 := Tryd.zeroValue116
 g17 := by kernel_rfl
 g18 := by kernel_rfl
 g19 := by kernel_rfl
 i0 := by kernel_rfl
 i2 := by kernel_rfl
 i3 := by kernel_rfl
 i4 := by kernel_rfl
 i5 := by kernel_rfl
 i9 := by kernel_rfl
 i20 := by kernel_rfl
 i37 := by kernel_rfl
 i46 := by kernel_rfl
 i51 := by kernel_rfl
 i53 := by kernel_rfl
 i171 := by kernel_rfl
 i173 := by kernel_rfl
 i212 := by kernel_rfl
 i232 := by kernel_rfl
 i233 := by kernel_rfl
 m17 := by kernel_rfl
 m18 := by kernel_rfl
 m19 := by kernel_rfl }
open Go.RowKit Go.Sort Go.Lib in
theorem Tryd.strconv_Itoa (n : Int) (h0 : -9223372036854775808 ≤ n) (h1 : n ≤ 9223372036854775807) (w : World) (htab : Lib.TabIs Tryd.prog w "internal/strconv.uint64pow10" .u64 Lib.pow10Tab) :
  Calls Tryd.prog 20 #[.int .i64 n] w fun e w' => e = .returned (.string ⟨(Lib.itoa n).toArray⟩) ∧ ∃ k os, w' = grow (w.drewN k) os := Any.strconv_Itoa Tryd.laysM171 n h0 h1 w htab
def Tryd.lays144_ren : Go.Shelf.Ren := ⟨fun | 144 => 22 | 143 => 30 | 219 => 35 | 217 => 36 | 225 => 43 | 224 => 44 | 267 => 45 | 266 => 46 | 314 => 61 | n => n, fun | 9 => 9 | 4 => 4 | 3 => 3 | 5 => 5 | 46 => 80 | 146 => 95 | 51 => 91 | n => n, fun | 1 => 1 | n => n⟩
theorem Tryd.lays144 : Go.Proofs.Lays.n144 Tryd.prog Tryd.lays144_ren := {
 mixed := by kernel_rfl
 f143 := Tryd.func30.trans (congrArg some (by kernel_rfl))
 f144 := Tryd.func22.trans (congrArg some (by kernel_rfl))
 f217 := Tryd.func36.trans (congrArg some (by kernel_rfl))
 f219 := Tryd.func35.trans (congrArg some (by kernel_rfl))
 f224 := Tryd.func44.trans (congrArg some (by kernel_rfl))
 f225 := Tryd.func43.trans (congrArg some (by kernel_rfl))
 f266 := Tryd.func46.trans (congrArg some (by kernel_rfl))
 f267 := Tryd.func45.trans (congrArg some (by kernel_rfl))
 f314 := Tryd.func61.trans (congrArg some (by kernel_rfl))
 t3 := Tryd.underlying3
 a3 := Tryd.isAgg3
 z3 := Tryd.sizeOf3
 v3 := Tryd.zeroValue3
 t4 := Tryd.underlying4
 a4 := Tryd.isAgg4
 z4 := Tryd.sizeOf4
 v4 := Tryd.zeroValue4
 t5 := Tryd.underlying5
 a5 := Tryd.isAgg5
 z5 := Tryd.sizeOf5
 v5 := Tryd.zeroValue5
 t9 := Tryd.underlying9
 a9 := Tryd.isAgg9
 z9 := Tryd.sizeOf9
 v9 := Tryd.zeroValue9
 t46 := Tryd.underlying80
 a46 := Tryd.isAgg80
 z46 := Tryd.sizeOf80
 v46 := Tryd.zeroValue80
 t51 := Tryd.underlying91
 a51 := Tryd.isAgg91
 z51 := Tryd.sizeOf91
 v51 := Tryd.zeroValue91
 t146 := Tryd.underlying95
 a146 := Tryd.isAgg95
 z146 := Tryd.sizeOf95
 v146 := Tryd.zeroValue95
 g1 := by kernel_rfl }
open Go.RowKit Go.Lib in
theorem Tryd.strings_Contains_one (s : ByteArray) (c : UInt8) (w : World) :
  Calls Tryd.prog 22 #[.string s, .string ⟨#[c]⟩] w fun e w' => e = .returned (.bool (decide (0 ≤ Lib.indexByte s.data.toList c))) ∧ w' = w := Any.strings_Contains_one Tryd.lays144 s c w
end Go.Proofs
namespace Go.Proofs.YtaaepdlajkdneaaDoor
open Go Go.RowKit
theorem ajf {c : Int} (h : 0 ≤ c ∧ c < 256) : [Value.int .u8 c] = [c.toNat.toUInt8].flatMap adl := by
 rw [List.flatMap_singleton]
 show _ = [Value.int .u8 _]
 rw [amf h]
def j3 (s : List UInt8) : List Value := [st s]
theorem i6 (s : List UInt8) : (j3 s).length = 1 := rfl
abbrev Bs := List UInt8
def shapes : List (Bs × Bs × Bs) := [([99, 104, 101, 99, 107], [108], [98]), ([99, 111, 100, 101], [108], [98]), ([119, 111, 114, 100, 115], [108], [98, 110]), ([103, 101, 116], [108, 115], [98, 111]), ([99, 97, 110, 111, 110], [108, 115], [98, 111]), ([119, 104, 101, 114, 101], [108, 115], [98]), ([115, 116, 114, 101, 97, 109], [108, 115], [98, 99]), ([99, 114, 101, 97, 116, 101], [108, 118], [98, 111]), ([112, 117, 116], [108, 118, 115], [98, 111]), ([101, 100, 105, 116], [108, 115, 97, 100, 116], [98, 111])]
def a8 (nm : Bs) : Bs × Bs × Bs := (shapes.find? fun s => decide (s.1 = nm)).getD ([], [], [])
def u2 (nm : Bs) : Bool := (shapes.find? fun s => decide (s.1 = nm)).isSome
abbrev adg (te : TypeId) (fre : Nat × Nat) : List (Nat × Obj) := [(0, .cells [st ([99, 104, 101, 99, 107] : List UInt8), st ([108] : List UInt8), st ([98] : List UInt8), st ([99, 111, 100, 101] : List UInt8), st ([108] : List UInt8), st ([98] : List UInt8), st ([119, 111, 114, 100, 115] : List UInt8), st ([108] : List UInt8), st ([98, 110] : List UInt8), st ([103, 101, 116] : List UInt8), st ([108, 115] : List UInt8), st ([98, 111] : List UInt8), st ([99, 97, 110, 111, 110] : List UInt8), st ([108, 115] : List UInt8), st ([98, 111] : List UInt8), st ([119, 104, 101, 114, 101] : List UInt8), st ([108, 115] : List UInt8), st ([98] : List UInt8), st ([115, 116, 114, 101, 97, 109] : List UInt8), st ([108, 115] : List UInt8), st ([98, 99] : List UInt8), st ([99, 114, 101, 97, 116, 101] : List UInt8), st ([108, 118] : List UInt8), st ([98, 111] : List UInt8), st ([112, 117, 116] : List UInt8), st ([108, 118, 115] : List UInt8), st ([98, 111] : List UInt8), st ([101, 100, 105, 116] : List UInt8), st ([108, 115, 97, 100, 116] : List UInt8), st ([98, 111] : List UInt8)].toArray te fre)]
end Go.Proofs.YtaaepdlajkdneaaDoor
namespace Go.Proofs.YtaaepdlajkdneaaDoor
open Go Go.ChangeShapes Go.WideShapes Go.ChangeAt Go.RowKit
set_option maxRecDepth 100000
theorem r6 {P : Program} {x : String × DataW Unit} {r : List (String × DataW Unit)} {W : World} (h : laidMet P (x :: r) W) : laidMet P r W := by
 obtain ⟨ps, ⟨g, t, cs, fuel, p, q, _, _, _, _, hr, rfl⟩, hn, hc⟩ := h
 exact ⟨q, hr, (List.nodup_append.1 hn).2.1, fun b off hm => hc b off (List.mem_append.2 (.inr hm))⟩
abbrev ag1 : List (String × DataW Unit) := [("math/bits.deBruijn32tab", Rows.laid_math_bits_deBruijn32tab), ("math/bits.deBruijn64tab", Rows.laid_math_bits_deBruijn64tab), ("internal/strconv.uint64pow10", Rows.laid_internal_strconv_uint64pow10), ("unicode/utf8.acceptRanges", Rows.laid_unicode_utf8_acceptRanges), ("strconv.ErrRange", Rows.laid_strconv_ErrRange), ("strconv.ErrSyntax", Rows.laid_strconv_ErrSyntax), ("loupe/args.shapes", Rows.laid_loupe_args_shapes), ("unicode/utf8.first", Rows.laid_unicode_utf8_first)]
theorem adc (W : World) : laidMetH Tryd.prog ag1 W = laidMet Tryd.prog ag1 W := by kernel_rfl
theorem ak2 : ∀ (rows : List (List Value)) (cs : List Value), cs.length = 3 * rows.length → (∀ i r, rows[i]? = some r → (cs.drop (i * 3)).take 3 = r) → cs = rows.flatten
 | [], cs, h, _ => List.length_eq_zero_iff.1 h
 | r :: rs, cs, h, hr => by
  have h0 : cs.take 3 = r := hr 0 r rfl
  have ih := ak2 rs (cs.drop 3) (by rw [List.length_drop, h, List.length_cons]; omega) (fun i r' hi => by
   rw [List.drop_drop, show 3 + i * 3 = (i + 1) * 3 by omega]; exact hr (i + 1) r' hi)
  rw [List.flatten_cons, ← ih, ← h0, List.take_append_drop]
abbrev sh3 : List (Bs × Bs × Bs) := [([99, 104, 101, 99, 107], [108], [98]), ([99, 111, 100, 101], [108], [98]), ([119, 111, 114, 100, 115], [108], [98, 110]), ([103, 101, 116], [108, 115], [98, 111]), ([99, 97, 110, 111, 110], [108, 115], [98, 111]), ([119, 104, 101, 114, 101], [108, 115], [98]), ([115, 116, 114, 101, 97, 109], [108, 115], [98, 99]), ([99, 114, 101, 97, 116, 101], [108, 118], [98, 111]), ([112, 117, 116], [108, 118, 115], [98, 111]), ([101, 100, 105, 116], [108, 115, 97, 100, 116], [98, 111])]
section
variable {H : Type} {enc : TypeId × Value → H} {W : World} {base : Nat} {sp : Nat → Bool} {hd : Bool} {fuel : Nat}
set_option maxRecDepth 100000 in
theorem aew {l : List Value} {y : DataW H × List MemPlace} (h : DataW.trod enc Tryd.prog W base sp hd fuel 45 l = some y) {a b c : Bs} (hy : y.1 = .agg [.lit (.string a), .lit (.string b), .lit (.string c)]) : l = [st a, st b, st c] := by
 have hc2 : Tryd.prog.cellsOf 9 = 1 := by kernel_rfl
 obtain ⟨xs, m, _, hx, hn, hl, hfs⟩ := DataW.trod_struct Tryd.underlying45 h
 have hl3 : l.length = 3 := hn.trans (by kernel_rfl)
 match xs, hl, l, hl3 with
 | [y0, y1, y2], _, [c0, c1, c2], _ =>
  have t0 : DataW.trod enc Tryd.prog W base sp hd m 9 [c0] = some y0 := by
   have h : DataW.trod enc Tryd.prog W base sp hd m 9 (List.take (Tryd.prog.cellsOf 9) (List.drop 0 [c0, c1, c2])) = some y0 := hfs 0 _ rfl
   rw [hc2] at h; exact h
  have t1 : DataW.trod enc Tryd.prog W base sp hd m 9 [c1] = some y1 := by
   have h : DataW.trod enc Tryd.prog W base sp hd m 9 (List.take (Tryd.prog.cellsOf 9) (List.drop 1 [c0, c1, c2])) = some y1 := hfs 1 _ rfl
   rw [hc2] at h; exact h
  have t2 : DataW.trod enc Tryd.prog W base sp hd m 9 [c2] = some y2 := by
   have h : DataW.trod enc Tryd.prog W base sp hd m 9 (List.take (Tryd.prog.cellsOf 9) (List.drop 2 [c0, c1, c2])) = some y2 := hfs 2 _ rfl
   rw [hc2] at h; exact h
  obtain ⟨s0, q0, rfl, _⟩ := DataW.trod_string Tryd.underlying9 t0
  obtain ⟨s1, q1, rfl, _⟩ := DataW.trod_string Tryd.underlying9 t1
  obtain ⟨s2, q2, rfl, _⟩ := DataW.trod_string Tryd.underlying9 t2
  rw [hx] at hy
  simp only [List.map_cons, List.map_nil, DataW.agg.injEq, List.cons.injEq, DataW.lit.injEq, Lit.string.injEq, and_true] at hy
  obtain ⟨rfl, rfl, rfl⟩ := hy
  simp only [List.cons.injEq, and_true] at q0 q1 q2
  subst q0 q1 q2
  rfl
set_option maxRecDepth 100000 in
theorem aea {cs : List Value} {p : List MemPlace} (h : DataW.trod enc Tryd.prog W base sp hd fuel 60 cs = some (Rows.laid_loupe_args_shapes, p)) : cs = (sh3.map fun x => [st x.1, st x.2.1, st x.2.2]).flatten := by
 obtain ⟨xs, m, _, hx, hn, hl, hi⟩ := DataW.trod_array Tryd.underlying60 h
 have hxs : sh3.map (fun x => (DataW.agg [.lit (.string x.1), .lit (.string x.2.1), .lit (.string x.2.2)] : DataW H)) = xs.map (·.1) := DataW.agg.inj (congrArg Prod.fst hx)
 refine ak2 _ cs (hn.trans (by kernel_rfl)) (fun i r hr => ?_)
 rw [List.getElem?_map] at hr
 obtain ⟨x, hxi, rfl⟩ := Option.map_eq_some_iff.1 hr
 have hi10 : i < 10 := (List.getElem?_eq_some_iff.1 hxi).1
 have h2 : (xs.map (·.1))[i]? = some (DataW.agg [.lit (.string x.1), .lit (.string x.2.1), .lit (.string x.2.2)]) := by rw [← hxs, List.getElem?_map, hxi]; rfl
 rw [List.getElem?_map] at h2
 obtain ⟨y, hy1, hy2⟩ := Option.map_eq_some_iff.1 h2
 have h3 := hi i hi10
 rw [show Tryd.prog.cellsOf 45 = 3 by kernel_rfl, hy1] at h3
 exact aew h3 hy2
end
theorem afc : Tryd.prog.globalNamed "loupe/args.shapes" = some 0 := by kernel_rfl
theorem alo : (Tryd.prog.globals[0]?).map (·.type) = some 60 := by kernel_rfl
set_option maxRecDepth 100000 in
theorem amx {W : World} {r : List (String × DataW Unit)} (h : laidMet Tryd.prog (("loupe/args.shapes", Rows.laid_loupe_args_shapes) :: r) W) : W.var? Tryd.prog "loupe/args.shapes" = some (sh3.map fun x => [st x.1, st x.2.1, st x.2.2]).flatten.toArray := by
 obtain ⟨ps, ⟨g, t, cs, fuel, p, q, hg, ht, hvar, hd, _, _⟩, _⟩ := h
 obtain rfl := Option.some.inj (afc.symm.trans hg)
 obtain rfl := Option.some.inj (alo.symm.trans ht)
 rw [hvar]
 obtain ⟨l⟩ := cs
 have := aea hd
 rw [← this]
set_option maxRecDepth 100000 in
theorem ah2 {W : World} (h : laidMetH Tryd.prog ag1 W) : ∃ te fre, W.heap[0]? = some (.cells (sh3.map fun x => [st x.1, st x.2.1, st x.2.2]).flatten.toArray te fre) := by
 rw [adc] at h
 have h2 := amx (r6 (r6 (r6 (r6 (r6 (r6 h))))))
 unfold World.var? at h2
 rw [afc] at h2
 simp only [Option.bind_some] at h2
 split at h2
 ·rename_i cs t fr hg
  obtain rfl := Option.some.inj h2
  exact ⟨t, fr, hg⟩
 ·cases h2
noncomputable def ad1 (g : Nat) (c : Array Value) (w : World) : World := { w with heap := w.heap.modify g fun
   | .cells _ t frozen => .cells c t frozen
   | o => o }
noncomputable def aim (g : Nat) (s : Bs) (w : World) : World := ad1 g #[.iface 125 (.pointer (some ⟨w.heap.size, 0, none⟩))] { w with heap := w.heap.push (.cells #[st s] 127 (0, 0)) }
set_option maxRecDepth 100000 in
noncomputable def ac0 (os : Os) : World :=
 ad1 5 #[.int .u8 0, .int .u8 1, .int .u8 28, .int .u8 2, .int .u8 29, .int .u8 14, .int .u8 24, .int .u8 3, .int .u8 30, .int .u8 22, .int .u8 20, .int .u8 15, .int .u8 25, .int .u8 17, .int .u8 4, .int .u8 8, .int .u8 31, .int .u8 27, .int .u8 13, .int .u8 23, .int .u8 21, .int .u8 19, .int .u8 16, .int .u8 7, .int .u8 26, .int .u8 12, .int .u8 18, .int .u8 6, .int .u8 11, .int .u8 5, .int .u8 10, .int .u8 9] (ad1 6 #[.int .u8 0, .int .u8 1, .int .u8 56, .int .u8 2, .int .u8 57, .int .u8 49, .int .u8 28, .int .u8 3, .int .u8 61, .int .u8 58, .int .u8 42, .int .u8 50, .int .u8 38, .int .u8 29, .int .u8 17, .int .u8 4, .int .u8 62, .int .u8 47, .int .u8 59, .int .u8 36, .int .u8 45, .int .u8 43, .int .u8 51, .int .u8 22, .int .u8 53, .int .u8 39, .int .u8 33, .int .u8 30, .int .u8 24, .int .u8 18, .int .u8 12, .int .u8 5, .int .u8 63, .int .u8 55, .int .u8 48, .int .u8 27, .int .u8 60, .int .u8 41, .int .u8 37, .int .u8 16, .int .u8 46, .int .u8 35, .int .u8 44, .int .u8 21, .int .u8 52, .int .u8 32, .int .u8 23, .int .u8 11, .int .u8 54, .int .u8 26, .int .u8 40, .int .u8 15, .int .u8 34, .int .u8 20, .int .u8 31, .int .u8 10, .int .u8 25, .int .u8 14, .int .u8 19, .int .u8 9, .int .u8 13, .int .u8 8, .int .u8 7, .int .u8 6] (ad1 2 #[.int .u64 1, .int .u64 10, .int .u64 100, .int .u64 1000, .int .u64 10000, .int .u64 100000, .int .u64 1000000, .int .u64 10000000, .int .u64 100000000, .int .u64 1000000000, .int .u64 10000000000, .int .u64 100000000000, .int .u64 1000000000000, .int .u64 10000000000000, .int .u64 100000000000000, .int .u64 1000000000000000, .int .u64 10000000000000000, .int .u64 100000000000000000, .int .u64 1000000000000000000, .int .u64 10000000000000000000] (ad1 8 #[.int .u8 128, .int .u8 191, .int .u8 160, .int .u8 191, .int .u8 128, .int .u8 159, .int .u8 144, .int .u8 191, .int .u8 128, .int .u8 143, .int .u8 0, .int .u8 0, .int .u8 0, .int .u8 0, .int .u8 0, .int .u8 0, .int .u8 0, .int .u8 0, .int .u8 0, .int .u8 0, .int .u8 0, .int .u8 0, .int .u8 0, .int .u8 0, .int .u8 0, .int .u8 0, .int .u8 0, .int .u8 0, .int .u8 0, .int .u8 0, .int .u8 0, .int .u8 0]
  (aim 4 [118, 97, 108, 117, 101, 32, 111, 117, 116, 32, 111, 102, 32, 114, 97, 110, 103, 101] (aim 3 [105, 110, 118, 97, 108, 105, 100, 32, 115, 121, 110, 116, 97, 120] (ad1 0 (sh3.map fun x => [st x.1, st x.2.1, st x.2.2]).flatten.toArray (ad1 7 (Pinned.utf8FirstZ.map fun (z : Nat) => Value.int .u8 (z : Int)).toArray (World.holding Tryd.prog os ⟨#[], #[], []⟩))))))))
section
variable {H : Type} {enc : TypeId × Value → H} {W : World} {base b0 : Nat} {sp : Nat → Bool} {hd : Bool} {r : Reach} {v : Value} {d : DataW H} {ps : List MemPlace}
end
end Go.Proofs.YtaaepdlajkdneaaDoor
