/-
  Merged: Gwy, Gwz, Show, RefA, ClassD, RdV, RdM, RdV2, RdV3, Gwd.
-/
import Derived.Test.YtohnchdnkbadaaaDoorChecked
import Derived.Recover
import Derived.Test.YtohnchdnkbadaaaDoorPl1
namespace Go.Proofs.YtohnchdnkbadaaaDoor
open Go Go.RowKit

variable {P : Program} {ops : Array Oper} {Q : Exit → Act → World → Prop} {C : Cx} {L : Sl} {H HK : List HA} {rest : List Oper} {o : Oper} {d : Nat}

/-- The operation gives a value and leaves such memory. -/
def ValX (P : Program) (C : Cx) (L : Sl) (H : List HA) (o : Oper) (Φ : Value → List HA → Prop) : Prop := ∀ a w, Fr C L a → Hp C H w → ∃ v w' H', (execOp a.eval o).run P w = .ok (.value v) w' ∧ Φ v H' ∧ Hp C H' w'
theorem WLX.valX {Φ : Value → List HA → Prop} (hv : ValX P C L H o Φ) (idx : List Nat) (hi : nodupB idx = true) (hk : ∀ v H', Φ v H' → sel H' idx = HK) (hd : o.dst = some d) (hw : wantB ops L o = some true) (hn : Nat.blt d C.n = true)
  (h : ∀ v H', Φ v H' → WLX P ops Q C HK ((d, v) :: L) H' rest) : WLX P ops Q C HK L H (o :: rest) := by
 intro a w hf hp
 obtain ⟨v, w', H', hr, hΦ, hp'⟩ := hv a w hf hp
 refine ⟨wanted_of hf hw, ?_⟩
 unfold Oper.wp
 rw [hr]
 simp only [Oper.upon, hd]
 exact ⟨fun _ => hk v H' hΦ ▸ hp'.pick idx hi, h v H' hΦ _ _ (hf.put hn v) hp'⟩
theorem WLX.make {Z : Obj} {f : Nat → Value} (hv : MV P C L H o Z f) (idx : List Nat) (hi : nodupB idx = true) (hk : ∀ b, sel (.blk b Z :: H) idx = HK) (hd : o.dst = some d) (hw : wantB ops L o = some true) (hn : Nat.blt d C.n = true)
  (h : ∀ b, WLX P ops Q C HK ((d, f b) :: L) (.blk b Z :: H) rest) : WLX P ops Q C HK L H (o :: rest) :=
 WLX.valX (Φ := fun v H' => ∃ b, v = f b ∧ H' = .blk b Z :: H) (fun a w hf hp => ⟨_, _, _, hv a w hf hp, ⟨_, rfl, rfl⟩, hp.alloc Z⟩) idx hi (fun _ _ ⟨b, _, e⟩ => e ▸ hk b) hd hw hn (fun _ _ ⟨b, e1, e2⟩ => by subst e1; subst e2; exact h b)
section ap
variable {α : Type} {f : α → List Value} {sz : Nat} {v : Value} {l ms : List α} {s x : Operand} {t e' T ty : TypeId} {p : String} {e : Array Edge} {cs zs : List Value} {bytes : Nat}
theorem append_valX (i j : Nat) {b : Nat} {m c : Nat} (hs : ev L s = some v) (hx : ev L x = some (.slice (some ⟨b, 0, none⟩) m c)) (hi : H[i]? = some (.row v e' sz l.length (l.flatMap f))) (hj : H[j]? = some (.blk b (.cells cs.toArray T (0, 0)))) (hc : cs = ms.flatMap f) (hm : ms.length = m)
  (hf' : ∀ x, (f x).length = sz) (h0 : 0 < sz) (h1 : cs.all (·.oneCell') = true) (ht : slB P t e' sz = true) (hinf : infoB P e' = some (zs, sz, bytes)) (hzs : zs.length = sz) (hb : ((l.length + m) + (l.length + m) / 4 + 192) * bytes ≤ 281474976710656 ∧ l.length + m ≤ 9223372036854775807) :
  ValX P C L H ⟨some d, .call ⟨.builtin .append, #[s, x], #[t, t]⟩, ty, p, e, none⟩ (fun v' H' => H' = H.set i (.row v' e' sz (l ++ ms).length ((l ++ ms).flatMap f))) := by
 intro a w hf hp
 obtain ⟨inf, z, q1, q2, q3, q4, q5⟩ := infoB_spec hinf
 have hblk := hp.blk hj
 subst hm
 have hlen : cs.length = ms.length * sz := by rw [hc, flat_len hf']
 have hnews : ∀ q u, cs[q]? = some u → w.cell? ((⟨b, 0, none⟩ : Addr).add q) = some u := fun q u hq => by
  rw [Addr.add_mid, Nat.zero_add]; simp [World.cell?, hblk, hq]
 have hone : ∀ u ∈ cs, u.oneCell' = true := fun u hu => (List.all_eq_true.1 h1) u hu
 obtain ⟨v', w', hr, r1, r2, _⟩ := run_append_own_wide (P := P) w 0 t ty e' inf z sz bytes (slB_spec ht).1 q1 q2 q4 q5 (by rw [q3]; simpa using hzs) h0 v l.length (l.flatMap f) (hp.row hi) ⟨b, 0, none⟩ ms.length c cs hlen hnews hone (by simp only [maxLen]; omega) hb.1 (Nat.zero_le _)
 refine ⟨v', w', _, ?_, rfl, hp.swap hi r2.os r2.tape r2.output r2.size (fun F hF k hk hkF => r2.block k hk (fun e => hkF (by rw [hF.1, ← e]; simp))) (fun F hF _ => ⟨v'.ownBlock.toList, ⟨rfl, by rw [List.length_append, List.flatMap_append, ← hc]; exact r1⟩, by cases v'.ownBlock <;> simp, fun k hk => ?_⟩)⟩
 ·unfold execOp
  simp only [resolve, invoke, builtin, Sem.run_bind, Sem.run_pure, Result.andThen_ok, List.map_toArray, List.map_cons, List.map_nil, hf.ev hs, hf.ev hx, hr]
 ·have hk' : v'.ownBlock = some k := by simpa using hk
  refine ⟨?_, (r1.lt k hk').2⟩
  rcases append_in (slB_spec ht).1 q1 q2 q4 q5 (hp.row hi) hlen hnews hone hb.2 hb.1 hr hk' with h4 | h4
  ·exact .inl (by rw [hF.1, h4]; simp)
  ·exact .inr h4
end ap
theorem OpK.storeSl {x y : Operand} {t ty T T' : TypeId} {p : String} {e : Array Edge} {g : Option (Nat × Bool)} {b off sz n : Nat} {v : Value} {xs cs cs' : List Value} (i k : Nat)
  (hx : ev L x = some (.pointer (some ⟨b, off, none⟩))) (hy : ev L y = some v) (hi : H[i]? = some (.blk b (.cells cs.toArray T (0, 0)))) (hk : H[k]? = some (.row v T' sz n xs)) (hs : sizeB P t 1 = true)
  (hfit : off + 1 ≤ cs.length) (he : cs.take off ++ [v] ++ cs.drop (off + 1) = cs') : OpK P ⟨none, .store t x y, ty, p, e, g⟩ Q C L H L (H.set i (.blk b (.cells cs'.toArray T (0, 0)))) := by
 intro K hK a w hf hp
 rcases (hp.row hk).2 with ⟨rfl, _⟩ | ⟨_, _, _, rfl, _⟩
 ·exact OpK.store (vs := [_]) i hx hy hi rfl hs hfit rfl he K hK a w hf hp
 ·exact OpK.store (vs := [_]) i hx hy hi rfl hs hfit rfl he K hK a w hf hp
/-- An owned slice, shorter. -/
theorem HA.shorter {w : World} {v : Value} {T sz m : Nat} {α : Type} {f : α → List Value} {l : List α} {F : List Nat} (hf' : ∀ x, (f x).length = sz) (hm : m ≤ l.length) (h : HA.at w (.row v T sz l.length (l.flatMap f)) F) : HA.at w (.row (slTo v m) T sz (l.take m).length ((l.take m).flatMap f)) F := by
 obtain ⟨rfl, hl, hr⟩ := h
 have hlen : (l.take m).length = m := by simp; omega
 rcases hr with ⟨rfl, h0⟩ | ⟨g, cap, cur, rfl, hg, hb, hn, hcm, hcs, htk⟩
 ·have : m = 0 := by omega
  subst this
  refine ⟨rfl, ?_, .inl ⟨rfl, hlen⟩⟩
  simp
 ·refine ⟨rfl, flat_len hf' _, .inr ⟨g, cap, cur, by rw [hlen]; rfl, hg, hb, by omega, hcm, hcs, ?_⟩⟩
  rw [hlen]
  have h2 : l.flatMap f = (l.take m).flatMap f ++ (l.drop m).flatMap f := by rw [← List.flatMap_append, List.take_append_drop]
  have h3 : cur.toList.take (m * sz) = (cur.toList.take (l.length * sz)).take (m * sz) := by
   rw [List.take_take, Nat.min_eq_left (Nat.mul_le_mul_right _ hm)]
  rw [h3, htk, h2, List.take_left' (by rw [flat_len hf', hlen])]
theorem Hp.shorter {w : World} {v : Value} {T sz m : Nat} {α : Type} {f : α → List Value} {l : List α} (i : Nat) (hi : H[i]? = some (.row v T sz l.length (l.flatMap f))) (hf' : ∀ x, (f x).length = sz) (hm : m ≤ l.length) (h : Hp C H w) : Hp C (H.set i (.row (slTo v m) T sz (l.take m).length ((l.take m).flatMap f))) w :=
 h.swap hi rfl rfl rfl (Nat.le_refl _) (fun _ _ _ _ _ => rfl) (fun F hF hn => ⟨F, HA.shorter hf' hm hF, hn, fun k hk => ⟨.inl hk, by
  obtain ⟨F0, h1, _, h3⟩ := h.own
  have h4 := (h1.mem_row hi).2 k (by have := hF.1; rw [this] at hk; simpa using hk)
  exact (h3 k h4).1⟩⟩)
theorem WL.shorter {v : Value} {T sz m : Nat} {α : Type} {f : α → List Value} {l : List α} {r : List Oper} (i : Nat) (hi : H[i]? = some (.row v T sz l.length (l.flatMap f))) (hf' : ∀ x, (f x).length = sz) (hm : m ≤ l.length)
  (h : WL P ops Q C L (H.set i (.row (slTo v m) T sz (l.take m).length ((l.take m).flatMap f))) r) : WL P ops Q C L H r := fun a w hf hp => h a w hf (hp.shorter i hi hf' hm)
theorem one_nil : ([] : List Value).all (·.oneCell') = true := rfl
theorem one_cons {u : Value} {vs : List Value} (h : u.oneCell' = true) (h' : vs.all (·.oneCell') = true) : (u :: vs).all (·.oneCell') = true := by rw [List.all_cons, h, h']; rfl
theorem cells_one {u : Value} (h : u.oneCell' = true) : u.cells = [u].toArray := by cases u <;> first | rfl | (cases h; done)
/-- A struct or an array out of parts whose cells are told. -/
def fillC (place : Nat → Option (Nat × Nat)) (cells : Array Value) : List (Nat × List Value) → Option (Array Value)
 | [] => some cells
 | (i, v) :: rest =>
  match place i with
  | none => none
  | some (off, size) => if v.length ≠ size || off + v.length > cells.size then none else fillC place (v.toArray.zipIdx.foldl (fun cs (c, j) => cs.setIfInBounds (off + j) c) cells) rest
def CellsAre : List (Nat × Value) → List (Nat × List Value) → Prop
 | [], [] => True
 | p :: r, q :: s => p.1 = q.1 ∧ p.2.cells = q.2.toArray ∧ CellsAre r s
 | _, _ => False
theorem fill_of_fillC {place : Nat → Option (Nat × Nat)} : ∀ {ps : List (Nat × Value)} {qs : List (Nat × List Value)} (cells : Array Value), CellsAre ps qs → Instr.fill place cells ps = fillC place cells qs
 | [], [], _, _ => rfl
 | (i, v) :: ps, (j, l) :: qs, cells, h => by
  obtain ⟨h1, h2, h3⟩ := h
  simp only at h1 h2
  subst h1
  unfold Instr.fill fillC
  cases hp : place i with
  | none => rfl
  | some q =>
   obtain ⟨off, size⟩ := q
   simp only [h2, List.size_toArray, fill_of_fillC _ h3]
 | [], _ :: _, _, h => h.elim
 | _ :: _, [], _, h => h.elim
def builtC (P : Program) (t : TypeId) (parts : List (Nat × List Value)) : Option (Array Value) :=
 match P.info? t, P.underlying t with
 | some it, some (.array _ e) =>
  match it.zero, P.info? e with
  | some z, some ie => fillC (fun i => some (i * ie.size, ie.size)) z.cells parts
  | _, _ => none
 | some it, some (.struct fields) =>
  match it.zero, fields.toList.mapM (fun f => (P.info? f.type).map fun i => (f.offset, i.size)) with
  | some z, some places => fillC (places.toArray[·]?) z.cells parts
  | _, _ => none
 | _, _ => none
theorem OV.buildC {t ty : TypeId} {d : Option Tmp} {p : String} {e : Array Edge} {g : Option (Nat × Bool)} {ps : List (Nat × Operand)} {vs : List (Nat × Value)} {qs : List (Nat × List Value)} {cs : List Value} (hx : evp L ps = some vs) (hc : CellsAre vs qs) (hb : builtC P t qs = some cs.toArray) : OV P C L H ⟨d, .build t ps.toArray, ty, p, e, g⟩ (.agg cs.toArray) := by
 refine OV.build hx ?_
 have h1 : ∀ place cells, Instr.fill place cells vs = fillC place cells qs := fun _ cells => fill_of_fillC cells hc
 rw [← hb]
 simp only [Program.built, builtC, h1]
 rfl
/-- A slice is one cell. -/
theorem WL.rowOne {r : List Oper} {v : Value} {T sz n : Nat} {xs : List Value} (i : Nat) (hi : H[i]? = some (.row v T sz n xs)) (h : v.oneCell' = true → WL P ops Q C L H r) : WL P ops Q C L H r := fun a w hf hp => by
 have h1 : v.oneCell' = true := by
  rcases (hp.row hi).2 with ⟨rfl, _⟩ | ⟨_, _, _, rfl, _⟩ <;> rfl
 exact h h1 a w hf hp
theorem LIn.one {v : Value} {n : Nat} {xs : List Value} (h : LIn C v n xs) : v.oneCell' = true := by
 obtain ⟨R, h1, _⟩ := h
 rcases h1 with ⟨_, _, ⟨_, _, rfl⟩, _⟩ | ⟨_, _, _, _, _, _, rfl, _⟩ <;> rfl
/-- A slice literal of one element that is handed whole. -/
theorem foldl_all : ∀ (l : List Value) (a : Array Value) (k i : Nat), ((l.zipIdx k).foldl (fun (a : Array Value) (p : Value × Nat) => a.setIfInBounds (0 + p.2) p.1) a)[i]? = if k ≤ i ∧ i < k + l.length ∧ i < a.size then l[i - k]? else a[i]?
 | [], a, k, i => by
  have : ¬ (k ≤ i ∧ i < k + ([] : List Value).length ∧ i < a.size) := by simp; omega
  rw [if_neg this]; rfl
 | x :: l, a, k, i => by
  rw [List.zipIdx_cons, List.foldl_cons, foldl_all l _ (k + 1) i]
  simp only [Array.size_setIfInBounds, Nat.zero_add, List.length_cons]
  by_cases h1 : k + 1 ≤ i ∧ i < k + 1 + l.length ∧ i < a.size
  ·rw [if_pos h1, if_pos (by omega), show i - k = (i - (k + 1)) + 1 by omega, List.getElem?_cons_succ]
  ·rw [if_neg h1]
   by_cases h2 : k ≤ i ∧ i < k + (l.length + 1) ∧ i < a.size
   ·have : i = k := by omega
    subst this
    rw [if_pos h2]; simp [h2.2.2]
   ·rw [if_neg h2]
    by_cases hk : k = i
    ·subst hk
     have : ¬ k < a.size := by omega
     simp [this]
    ·rw [Array.getElem?_setIfInBounds_ne hk]
theorem MV.buildSlice1 {t e' ty : TypeId} {d : Option Tmp} {p : String} {e : Array Edge} {g : Option (Nat × Bool)} {x : Operand} {v : Value} {cs zs : List Value} {sz : Nat} (hx : ev L x = some v) (hv : v.cells = cs.toArray) (hs : slB P t e' sz = true) (hz : zeroB P e' = some zs) (hl : cs.length = sz) (hl2 : zs.length = sz) (h0 : (0 < sz ∧ sz ≤ 65536) := by decide) :
  MV P C L H ⟨d, .buildSlice t 1 #[(0, x)], ty, p, e, g⟩ (.cells cs.toArray e' (0, 0)) (fun b => .slice (some ⟨b, 0, none⟩) 1 1) := by
 refine MV.buildSlice (ps := [(0, x)]) (vs := [(0, v)]) (e' := e') (sz := sz) (by simp only [evp, hx]) hs ?_
 have hsz := (slB_spec hs).2
 unfold sizeB at hsz
 unfold zeroB at hz
 unfold Program.builtSlice
 cases hi : P.info? e' with
 | none => rw [hi] at hsz; simp at hsz
 | some ie =>
  rw [hi] at hsz hz
  have hsz : ie.size = sz := by simpa using hsz
  cases hq : ie.zero with
  | none => rw [Option.bind_some, hq] at hz; cases hz
  | some z =>
   rw [Option.bind_some, hq] at hz
   have hz : z.cells.toList = zs := by simpa using hz
   have hzl : z.cells.size = sz := by rw [← hl2, ← hz]; simp
   simp only [hq, Nat.one_mul, hsz]
   rw [if_neg (by omega)]
   unfold Instr.fill
   have hvs : v.cells.size = sz := by rw [hv]; simpa using hl
   simp only [hvs, Nat.zero_mul, Nat.zero_add, Array.size_map, Array.size_range]
   rw [if_neg (by simp)]
   unfold Instr.fill
   congr 1
   rw [hv]
   apply Array.ext_getElem?
   intro i
   have hfa : (List.toArray cs).zipIdx.foldl (fun (a : Array Value) (x : Value × Nat) => a.setIfInBounds (0 + x.2) x.1) ((Array.range sz).map (fun x => z.cells[x % z.cells.size]!)) = (cs.zipIdx 0).foldl (fun (a : Array Value) (x : Value × Nat) => a.setIfInBounds (0 + x.2) x.1) ((Array.range sz).map (fun x => z.cells[x % z.cells.size]!)) := by
    simp
   simp only [Nat.zero_add] at hfa ⊢
   have h2 := foldl_all cs ((Array.range sz).map (fun x => z.cells[x % z.cells.size]!)) 0 i
   simp only [Nat.zero_add, Nat.zero_le, true_and, Nat.sub_zero, Array.size_map, Array.size_range] at h2
   refine (congrArg (·[i]?) hfa).trans (h2.trans ?_)
   by_cases hi2 : i < cs.length
   ·rw [if_pos ⟨hi2, by omega⟩]; simp
   ·rw [if_neg (by omega)]
    simp [show ¬ i < sz by omega, hi2]
/-- A new pool, to begin with. -/
theorem Hp.newPool {w : World} (h : Hp C H w) : Hp C (pool [] :: H) w := by
 obtain ⟨F, h1, h2⟩ := h.own
 exact ⟨h.os, h.tape, h.output, h.size, h.keep, h.ro, F, ⟨[], F, rfl, ⟨rfl, fun p hp => by cases hp⟩, h1⟩, h2⟩
end Go.Proofs.YtohnchdnkbadaaaDoor
namespace Go.Proofs.YtohnchdnkbadaaaDoor
open Go Go.RowKit

variable {P : Program} {Q : Exit → Act → World → Prop} {C : Cx} {L : Sl} {H : List HA}
section st
variable {x y : Operand} {t ty T : TypeId} {p : String} {e : Array Edge} {g : Option (Nat × Bool)} {v u : Value} {sz : Nat} {α : Type} [Inhabited α] {f : α → List Value} {l : List α}
omit [Inhabited α] in
theorem OpK.storeE (i : Nat) {j : Nat} {z : α} (hx : ev L x = some (.pointer (some ⟨blkOf v, j * sz, none⟩))) (hy : ev L y = some u) (hi : H[i]? = some (.row v T sz l.length (l.flatMap f))) (hf' : ∀ x, (f x).length = sz) (h0 : 0 < sz) (hj : j < l.length) (hv : u.cells = (f z).toArray) (hs : sizeB P t sz = true) (h1 : (f z).all (·.oneCell') = true) :
  OpK P ⟨none, .store t x y, ty, p, e, g⟩ Q C L H L (H.set i (.row v T sz (l.set j z).length ((l.set j z).flatMap f))) := by
 have := OpK.storeRow (Q := Q) (C := C) (p := p) (e := e) (g := g) (ty := ty) (xs' := (l.set j z).flatMap f) i hx hy hi hv (by rw [hf']; exact hs) (fun e => by have := hf' z; rw [e, List.length_nil] at this; omega) (by
  rw [flat_len hf', hf']
  have : (j + 1) * sz ≤ l.length * sz := Nat.mul_le_mul_right _ hj
  rw [Nat.add_mul, Nat.one_mul] at this; exact this) h1 (by
  rw [hf']
  have h2 : j * sz + sz = (j + 1) * sz := by rw [Nat.add_mul, Nat.one_mul]
  have h1 : ∀ (l : List α) (i : Nat), (l.flatMap f).take (i * sz) = (l.take i).flatMap f := by
   intro l
   induction l with
   | nil => intro i; simp
   | cons y l ih =>
    intro i
    cases i with
    | zero => simp
    | succ i =>
     rw [List.flatMap_cons, Nat.add_mul, Nat.one_mul, Nat.add_comm, List.take_append, hf', List.take_of_length_le (by rw [hf']; omega), show sz + i * sz - sz = i * sz by omega, ih i]; rfl
  rw [h1, h2, flat_drop hf', List.set_eq_take_append_cons_drop, if_pos hj]
  simp [List.flatMap_append])
 rw [List.length_set]; exact this
theorem OpK.storeEF (i : Nat) {j o : Nat} {z : α} (hx : ev L x = some (.pointer (some ⟨blkOf v, j * sz + o, none⟩))) (hy : ev L y = some u) (hi : H[i]? = some (.row v T sz l.length (l.flatMap f))) (hf' : ∀ x, (f x).length = sz) (hj : j < l.length) (ho : o < sz) (hv : u.cells = #[u]) (hs : sizeB P t 1 = true) (h1 : u.oneCell' = true) (he : (f (l.getD j default)).set o u = f z) :
  OpK P ⟨none, .store t x y, ty, p, e, g⟩ Q C L H L (H.set i (.row v T sz (l.set j z).length ((l.set j z).flatMap f))) := by
 have := OpK.storeRow (Q := Q) (C := C) (p := p) (e := e) (g := g) (ty := ty) (vs := [u]) i hx hy hi hv hs (by simp) (by
  rw [flat_len hf']
  have : (j + 1) * sz ≤ l.length * sz := Nat.mul_le_mul_right _ hj
  rw [Nat.add_mul, Nat.one_mul] at this; simp only [List.length_cons, List.length_nil]; omega) (by simp [h1]) (flat_set1 hf' hj ho he)
 rw [List.length_set]; exact this
end st
theorem CV.fn {f : FuncId} {xs : List Operand} {ats : Array TypeId} {d : Option Tmp} {ty : TypeId} {p : String} {e : Array Edge} {g : Option (Nat × Bool)} {vs : List Value} {R : List (Nat × Obj)} {v : Value} (he : entB P f = true) (hx : evs L xs = some vs) (hc : Does P f vs R [] (Ret v [])) (hR : Rd C H R) :
  CV P C L H ⟨d, .call ⟨.value (.func f), xs.toArray, ats⟩, ty, p, e, g⟩ v := ⟨f, vs, R, EN.fn he hx, hc, hR⟩
theorem Does.one {P : Program} {f : FuncId} {args : List Value} {R : List (Nat × Obj)} {α : Type} {e : α → Value} {c : α} (h : Does P f args R [] (fun o => (∃ v, v = c ∧ o = .ret (e v) []) ∨ False)) : Does P f args R [] (Ret (e c) []) := h.weak (by
 rintro o (⟨v, rfl, rfl⟩ | h)
 ·rfl
 ·exact h.elim)
theorem ResV.of5 {fn : Func} {r s q z j : ResultVar} {v u x y k : Value} (hr : fn.results = #[r, s, q, z, j]) (h0 : RV P C L H r v) (h1 : RV P C L H s u) (h2 : RV P C L H q x) (h3 : RV P C L H z y) (h4 : RV P C L H j k) : ResV P fn C L H (.tuple #[v, u, x, y, k]) := fun a w hf hp => by
 rw [results_eq, hr]
 simp [h0 a w hf hp, h1 a w hf hp, h2 a w hf hp, h3 a w hf hp, h4 a w hf hp]
end Go.Proofs.YtohnchdnkbadaaaDoor
namespace Go.Proofs.YtohnchdnkbadaaaDoor
open Go Go.RowKit

def spL : List UInt8 := [40, 41, 91, 93, 123, 125, 124, 38, 45, 42, 43, 63, 46, 92, 47, 94]
def inL : List UInt8 := [92, 93, 91, 45, 94, 47]

end Go.Proofs.YtohnchdnkbadaaaDoor
namespace Go.Proofs.YtohnchdnkbadaaaDoor
open Go Go.RowKit

set_option maxRecDepth 100000 in
theorem contains_drop (l : List UInt8) (c : UInt8) (k : Nat) (h : k < l.length) : (l.drop k).contains c = ((l[k]! == c) || (l.drop (k + 1)).contains c) := by
 rw [List.drop_eq_getElem_cons h, List.contains_cons, getElem!_pos l k h, Bool.beq_comm]

set_option maxRecDepth 100000 in
theorem in_ref (l : List UInt8) (b : Nat) (hb : b < 256) (hsz : l.length < 1000) : Pure Tryd.prog 148 #[.string (bs l), .int .u8 b] (.bool (l.contains b.toUInt8)) := by
 intro w
 have hz := bs_size l
 go_enter Tryd.func148, Tryd.ntmps148
 go_wp2_with fail
 go_loopw [4, 5] (fun r i wr => ∃ k : Nat, r = .bool false ∧ i = .int .i64 k ∧ k ≤ l.length ∧ l.contains b.toUInt8 = (l.drop k).contains b.toUInt8 ∧ wr = w)
  (fun _ i _ => l.length - (intOf i).toNat)
 case atStart => exact ⟨0, rfl, rfl, by omega, by simp, rfl⟩
 case round =>
  obtain ⟨k, rfl, rfl, hk, hc, rfl⟩ := hrel
  by_cases hlt : k < l.length
  ·have hd := contains_drop l b.toUInt8 k hlt
   have hg : ∀ h, (bs l)[k]'h = l[k]! := fun h => by rw [getElem!_pos l k hlt]; rfl
   have hgb : ((l[k]!.toNat : Int) == (b : Int)) = (l[k]! == b.toUInt8) := by
    generalize l[k]! = x
    have hbt : b.toUInt8.toNat = b := by simp; omega
    rw [Bool.eq_iff_iff]
    simp only [beq_iff_eq]
    constructor
    ·intro h; apply UInt8.toNat_inj.1; omega
    ·intro h; rw [h, hbt]
   have HG := Lib.hid hg
   have HB := Lib.hid hgb
   have HC := Lib.hid hc
   have HD := Lib.hid hd
   clear hg hgb hc hd
   go_wp2
   ·rename_i h
    rw [HG.out, HB.out] at h
    go_ret
    exact ⟨by rw [HC.out, HD.out, h]; rfl, Below.refl _ _⟩
   ·rename_i h
    rw [HG.out, HB.out] at h
    go_roundw
    case rel => exact ⟨k + 1, rfl, by go_num, by omega, by rw [HC.out, HD.out, h, Bool.false_or], trivial⟩
    case measure => simp [intOf] <;> omega
  ·have he : k = l.length := by omega
   have HC := Lib.hid (show l.contains b.toUInt8 = false by rw [hc, he, List.drop_length]; rfl)
   clear hc
   go_wp2
   go_ret
   exact ⟨by rw [HC.out]; rfl, Below.refl _ _⟩

set_option maxRecDepth 100000 in
theorem special_ref (b : Nat) (hb : b < 256) : Pure Tryd.prog 119 #[.int .u8 b] (.bool (spL.contains b.toUInt8)) := by
 intro w
 have C := Lib.hid (in_ref spL b hb (by decide))
 go_enter Tryd.func119, Tryd.ntmps119
 go_wp2_with fail
 refine (C.out w).mono ?_
 rintro e W ⟨rfl, hv⟩
 generalize hr : spL.contains b.toUInt8 = r
 have HR := Lib.hid hr; clear hr
 go_wp2
 go_ret
 exact ⟨by rw [HR.out]; rfl, hv⟩

set_option maxRecDepth 100000 in
theorem inner_ref (b : Nat) (hb : b < 256) : Pure Tryd.prog 118 #[.int .u8 b] (.bool (inL.contains b.toUInt8)) := by
 intro w
 have C := Lib.hid (in_ref inL b hb (by decide))
 go_enter Tryd.func118, Tryd.ntmps118
 go_wp2_with fail
 refine (C.out w).mono ?_
 rintro e W ⟨rfl, hv⟩
 generalize hr : inL.contains b.toUInt8 = r
 have HR := Lib.hid hr; clear hr
 go_wp2
 go_ret
 exact ⟨by rw [HR.out]; rfl, hv⟩

end Go.Proofs.YtohnchdnkbadaaaDoor
namespace Go.Proofs.YtohnchdnkbadaaaDoor
open Go Go.RowKit

/-- The four words of a set, as a list. -/
def wl (s : CS) : List Value := [.int .u64 (wd s 0), .int .u64 (wd s 1), .int .u64 (wd s 2), .int .u64 (wd s 3)]
set_option maxRecDepth 100000 in
theorem nat_of {x : Int} (h : 0 ≤ x ∧ x < 256) : ∃ n : Nat, n < 256 ∧ x = (n : Int) := ⟨x.toNat, by omega, by omega⟩
set_option maxRecDepth 100000 in
theorem span_does (lo hi : Int) (h : (0 ≤ lo ∧ lo < 256) ∧ (0 ≤ hi ∧ hi < 256)) : Does Tryd.prog 176 [.int .u8 lo, .int .u8 hi] [] [] (Ret (.agg (wl (spanS lo.toNat hi.toNat)).toArray) []) := by
 obtain ⟨n, hn, rfl⟩ := nat_of h.1
 obtain ⟨m, hm, rfl⟩ := nat_of h.2
 exact Does.ofPure (span_pure n m hn hm)
set_option maxRecDepth 100000 in
theorem not_does (s : CS) : Does Tryd.prog 125 [.agg (wl s).toArray] [] [] (Ret (.agg (wl (~~~ s)).toArray) []) := Does.ofPure (not_pure s)
set_option maxRecDepth 100000 in
theorem union_does (s t : CS) : Does Tryd.prog 180 [.agg (wl s).toArray, .agg (wl t).toArray] [] [] (Ret (.agg (wl (s ||| t)).toArray) []) := Does.ofPure (union_pure s t)
set_option maxRecDepth 100000 in
theorem of_does (l : List UInt8) (h : l.length ≤ maxLen) : Does Tryd.prog 41 [st l] [] [] (Ret (.agg (wl (ofS l)).toArray) []) := by
 have := of_pure ⟨l.toArray⟩ (by simpa [ByteArray.size] using h)
 exact Does.ofPure this
set_option maxRecDepth 100000 in
theorem indexByte_does (l : List UInt8) (c : Int) : Does Tryd.prog 135 [st l, .int .u8 c] [] [] (Ret (.int .i64 (Lib.indexByte l c.toNat.toUInt8)) []) :=
 Does.ofPure fun w => (Tryd.strings_IndexByte ⟨l.toArray⟩ c w).mono fun _ _ ⟨h1, h2⟩ => by subst h2; exact ⟨h1, Below.refl _ _⟩
set_option maxRecDepth 100000 in
theorem special_does (c : Int) (h : 0 ≤ c ∧ c < 256) : Does Tryd.prog 119 [.int .u8 c] [] [] (Ret (.bool (spL.contains c.toNat.toUInt8)) []) := by
 obtain ⟨n, hn, rfl⟩ := nat_of h
 exact Does.ofPure (special_ref n hn)
set_option maxRecDepth 100000 in
theorem inner_does (c : Int) (h : 0 ≤ c ∧ c < 256) : Does Tryd.prog 118 [.int .u8 c] [] [] (Ret (.bool (inL.contains c.toNat.toUInt8)) []) := by
 obtain ⟨n, hn, rfl⟩ := nat_of h
 exact Does.ofPure (inner_ref n hn)
/-- The value that a fault ends the reading with. -/
def faultV (code place : Int) : Value := .iface 26 (.agg #[.int .i64 code, .int .i64 place, st []])
end Go.Proofs.YtohnchdnkbadaaaDoor
namespace Go.Proofs.YtohnchdnkbadaaaDoor
open Go Go.RowKit
abbrev zP (b : Nat) : Value := Value.pointer (some ⟨b, 0, none⟩)
abbrev zI (i : Int) : Value := Value.int .i64 i
abbrev zU (i : Int) : Value := Value.int .u8 i
abbrev zB (b : Bool) : Value := Value.bool b
theorem wv {P : Program} {ops : Array Oper} {Q : Exit → Act → World → Prop} {C : Cx} {L : Sl} {H : List HA} {rest : List Oper} {o : Oper} {v : Value} {d : Nat} (hv : OV P C L H o v) (h : WL P ops Q C ((d, v) :: L) H rest) (hw : wantB ops L o = some true := by exact rfl) (hd : o.dst = some d := by exact rfl) (hn : Nat.blt d C.n = true := by exact rfl) : WL P ops Q C L H (o :: rest) := WL.val hv hw hd hn h
end Go.Proofs.YtohnchdnkbadaaaDoor
namespace Go.Proofs.YtohnchdnkbadaaaDoor
open Go Go.RowKit

theorem tf_some_5 : (Tryd.prog.underlying 5).isSome = true := by kernel_rfl
theorem tf_field_222_1 : fieldOff Tryd.prog 222 1 = some 1 := by kernel_rfl
theorem tf_scal_3 : scalB Tryd.prog 3 = true := by kernel_rfl
theorem tf_field_222_0 : fieldOff Tryd.prog 222 0 = some 0 := by kernel_rfl
theorem tf_scal_9 : scalB Tryd.prog 9 = true := by kernel_rfl
theorem tf_str_9 : strB Tryd.prog 9 = true := by kernel_rfl
theorem tf_mixed : Tryd.prog.follows .mixedOrders = true := by kernel_rfl
theorem tf_conc_26 : Program.concrete Tryd.prog 26 = true := by kernel_rfl

def refhex_vc (c : Int) (K : Int → Prop) : Prop :=
 (if ((decide (48 ≤ c)) && (decide (c ≤ 57))) = true then
  (I64 (IntKind.wrap .u8 (c - 48))) ∧
  K (IntKind.wrap .u8 (c - 48))
 else
  (if ((decide (97 ≤ c)) && (decide (c ≤ 102))) = true then
   (I64 (IntKind.wrap .u8 (c - 97))) ∧
   (I64 ((IntKind.wrap .u8 (c - 97)) + 10)) ∧
   K ((IntKind.wrap .u8 (c - 97)) + 10)
  else
   K (-1)))
set_option maxRecDepth 100000 in
theorem refhex_wp  (c : Int) (K : Int → Prop) (h : refhex_vc c K) :
  Does Tryd.prog 120 [zU c] [] [] (fun o => (∃ (v : Int), K v ∧ o = .ret (zI v) []) ∨ (False)) := by
 unfold refhex_vc at h
 refine does_of_wc (n := 22) (L0 := [(0, zU c)]) Tryd.func120 rfl rfl rfl rfl (fun w0 M Q hE => ?_)
 refine wc_seq (fun K0 hK => ?_)
 refine wc_region ?_
 refine wv (OV.assign rfl) ?_
 refine WL.nil ?_
 refine KX.go (hK [(0, zU c)] _ ?_) ⟨rfl, trivial⟩
 refine wc_seq (fun K0_1' hK_1' => ?_)
 refine wc_seq (fun K0_2' hK_2' => ?_)
 refine wc_region ?_
 refine wv (OV.move rfl) ?_
 refine wv (OV.geq rfl rfl) ?_
 refine wv (OV.move rfl) ?_
 refine WL.cut 3 [(0, zU c), (8, zB ((decide (48 ≤ c)) && (decide (c ≤ 57))))] ?_ (fun K0_3' hK_3' => ?_)
 rotate_left
 ·refine WL.split (decide (48 ≤ c)) (fun hb => ?_) (fun hb => ?_)
  ·refine WL.set 5 rfl (congrArg zB hb) ?_
   refine wv (OV.move rfl) ?_
   refine wv (OV.leq rfl rfl) ?_
   refine wv (OV.pickT rfl rfl) ?_
   refine WL.set 8 rfl (bT (v := decide (c ≤ 57)) hb) ?_
   exact WL.end_ (KX.go hK_3' ⟨rfl, rfl, trivial⟩)
  ·refine WL.set 5 rfl (congrArg zB hb) ?_
   refine WL.skip rfl rfl rfl ?_
   refine WL.skip rfl rfl rfl ?_
   refine wv (OV.pickF rfl rfl) ?_
   refine WL.set 8 rfl (bF (v := decide (c ≤ 57)) hb) ?_
   exact WL.end_ (KX.go hK_3' ⟨rfl, rfl, trivial⟩)
 refine WL.nil ?_
 refine KX.go (hK_2' [(0, zU c), (8, zB ((decide (48 ≤ c)) && (decide (c ≤ 57))))] _ ?_) ⟨rfl, rfl, trivial⟩
 refine wc_cond (b := (decide (48 ≤ c)) && (decide (c ≤ 57))) rfl (fun hb => ?_) (fun hb => ?_)
 ·replace h := if_T h hb
  refine wc_seq (fun K0_4' hK_4' => ?_)
  refine wc_region ?_
  refine wv (OV.move rfl) ?_
  refine wv (OV.subW rfl rfl) ?_
  obtain ⟨o_1', h⟩ := h
  refine wv (OV.conv64 rfl tf_some_5 Tryd.underlying3 o_1') ?_
  refine wv (OV.assign rfl) ?_
  refine WL.nil ?_
  refine KX.go (hK_4' [(2, zI (IntKind.wrap .u8 (c - 48)))] _ ?_) ⟨rfl, trivial⟩
  refine wc_ret ?_
  exact hE.ret [] rfl rfl (.inl ⟨_, h, rfl⟩) (ResV.of1 rfl (RV.tmp rfl))
 ·replace h := if_F h hb
  refine wc_skip ?_
  refine KX.go (hK_1' [(0, zU c)] _ ?_) ⟨rfl, trivial⟩
  refine wc_seq (fun K0_5' hK_5' => ?_)
  refine wc_seq (fun K0_6' hK_6' => ?_)
  refine wc_region ?_
  refine wv (OV.move rfl) ?_
  refine wv (OV.geq rfl rfl) ?_
  refine wv (OV.move rfl) ?_
  refine WL.cut 3 [(0, zU c), (17, zB ((decide (97 ≤ c)) && (decide (c ≤ 102))))] ?_ (fun K0_7' hK_7' => ?_)
  rotate_left
  ·refine WL.split (decide (97 ≤ c)) (fun hb => ?_) (fun hb => ?_)
   ·refine WL.set 14 rfl (congrArg zB hb) ?_
    refine wv (OV.move rfl) ?_
    refine wv (OV.leq rfl rfl) ?_
    refine wv (OV.pickT rfl rfl) ?_
    refine WL.set 17 rfl (bT (v := decide (c ≤ 102)) hb) ?_
    exact WL.end_ (KX.go hK_7' ⟨rfl, rfl, trivial⟩)
   ·refine WL.set 14 rfl (congrArg zB hb) ?_
    refine WL.skip rfl rfl rfl ?_
    refine WL.skip rfl rfl rfl ?_
    refine wv (OV.pickF rfl rfl) ?_
    refine WL.set 17 rfl (bF (v := decide (c ≤ 102)) hb) ?_
    exact WL.end_ (KX.go hK_7' ⟨rfl, rfl, trivial⟩)
  refine WL.nil ?_
  refine KX.go (hK_6' [(0, zU c), (17, zB ((decide (97 ≤ c)) && (decide (c ≤ 102))))] _ ?_) ⟨rfl, rfl, trivial⟩
  refine wc_cond (b := (decide (97 ≤ c)) && (decide (c ≤ 102))) rfl (fun hb => ?_) (fun hb => ?_)
  ·replace h := if_T h hb
   refine wc_seq (fun K0_8' hK_8' => ?_)
   refine wc_region ?_
   refine wv (OV.move rfl) ?_
   refine wv (OV.subW rfl rfl) ?_
   obtain ⟨o_3', h⟩ := h
   refine wv (OV.conv64 rfl tf_some_5 Tryd.underlying3 o_3') ?_
   obtain ⟨o_4', h⟩ := h
   refine wv (OV.add rfl rfl o_4') ?_
   refine wv (OV.assign rfl) ?_
   refine WL.nil ?_
   refine KX.go (hK_8' [(2, zI ((IntKind.wrap .u8 (c - 97)) + 10))] _ ?_) ⟨rfl, trivial⟩
   refine wc_ret ?_
   exact hE.ret [] rfl rfl (.inl ⟨_, h, rfl⟩) (ResV.of1 rfl (RV.tmp rfl))
  ·replace h := if_F h hb
   refine wc_skip ?_
   refine KX.go (hK_5' [] _ ?_) trivial
   refine wc_seq (fun K0_9' hK_9' => ?_)
   refine wc_region ?_
   refine wv (OV.assign rfl) ?_
   refine WL.nil ?_
   refine KX.go (hK_9' [(2, zI (-1))] _ ?_) ⟨rfl, trivial⟩
   refine wc_ret ?_
   exact hE.ret [] rfl rfl (.inl ⟨_, h, rfl⟩) (ResV.of1 rfl (RV.tmp rfl))

def peek_vc (r_0 : List UInt8) (r_1 : Int) (K : Int → Bool → Prop) : Prop :=
 (if (decide (r_1 < (r_0.length : Int))) = true then
  (0 ≤ r_1 ∧ r_1 < r_0.length) ∧
  K ((r_0.getD r_1.toNat 0).toNat : Int) true
 else
  K 0 false)
set_option maxRecDepth 100000 in
theorem peek_wp (b : Nat) (r_0 : List UInt8) (r_1 : Int) (K : Int → Bool → Prop) (h : peek_vc r_0 r_1 K) :
  Does Tryd.prog 178 [zP b] [(b, .cells [st r_0, zI r_1].toArray 222 (0, 0))] [] (fun o => (∃ (v : Int) (v_1' : Bool), K v v_1' ∧ o = .ret (Value.tuple #[zU v, zB v_1']) []) ∨ (False)) := by
 unfold peek_vc at h
 refine does_of_wc (n := 23) (L0 := [(0, zP b)]) Tryd.func178 rfl rfl rfl rfl (fun w0 M Q hE => ?_)
 refine wc_seq (fun K0 hK => ?_)
 refine wc_region ?_
 refine wv (OV.assign rfl) ?_
 refine wv (OV.assign rfl) ?_
 refine WL.nil ?_
 refine KX.go (hK [(0, zP b)] _ ?_) ⟨rfl, trivial⟩
 refine wc_seq (fun K0_1' hK_1' => ?_)
 refine wc_seq (fun K0_2' hK_2' => ?_)
 refine wc_draw 9 [] tf_mixed (by kernel_rfl) rfl (fun T hT => ?_)
 refine FL.val (fun _ => OV.move rfl) rfl (fun _ => rfl) rfl rfl ?_
 refine FL.val (fun _ => OV.nilCheck rfl) rfl (fun _ => rfl) rfl rfl ?_
 refine FL.val (fun _ => OV.fieldAddr0 rfl tf_field_222_1) rfl (fun _ => rfl) rfl rfl ?_
 refine FL.val (fun _ => OV.load rfl (At.ro 0 rfl) rfl tf_scal_3) rfl (fun _ => rfl) rfl rfl ?_
 refine FL.val (fun _ => OV.move rfl) rfl (fun _ => rfl) rfl rfl ?_
 refine FL.val (fun _ => OV.nilCheck rfl) rfl (fun _ => rfl) rfl rfl ?_
 refine FL.val (fun _ => OV.fieldAddr0 rfl tf_field_222_0) rfl (fun _ => rfl) rfl rfl ?_
 refine FL.val (fun _ => OV.load rfl (At.ro 0 rfl) rfl tf_scal_9) rfl (fun _ => rfl) rfl rfl ?_
 refine FL.val (fun _ => OV.len rfl tf_str_9) rfl (fun _ => rfl) rfl rfl ?_
 refine FL.weak (L' := fun γ => [(0, zP b), (7, zI r_1), (12, zI (r_0.length : Int))]) (fun γ => ⟨rfl, rfl, rfl, trivial⟩) (FL.nil (hT (fun γ => [(0, zP b), (7, zI r_1), (12, zI (r_0.length : Int))]) (fun γ => ?_)))
 refine wv (OV.lss rfl rfl) ?_
 refine WL.nil ?_
 refine KX.go (hK_2' [(0, zP b), (13, zB (decide (r_1 < (r_0.length : Int))))] _ ?_) ⟨rfl, rfl, trivial⟩
 refine wc_cond (b := decide (r_1 < (r_0.length : Int))) rfl (fun hb => ?_) (fun hb => ?_)
 ·replace h := if_T h hb
  refine wc_seq (fun K0_3' hK_3' => ?_)
  refine wc_draw 8 [] tf_mixed (by kernel_rfl) rfl (fun T_1' hT_1' => ?_)
  refine FL.val (fun _ => OV.move rfl) rfl (fun _ => rfl) rfl rfl ?_
  refine FL.val (fun _ => OV.nilCheck rfl) rfl (fun _ => rfl) rfl rfl ?_
  refine FL.val (fun _ => OV.fieldAddr0 rfl tf_field_222_0) rfl (fun _ => rfl) rfl rfl ?_
  refine FL.val (fun _ => OV.load rfl (At.ro 0 rfl) rfl tf_scal_9) rfl (fun _ => rfl) rfl rfl ?_
  refine FL.val (fun _ => OV.move rfl) rfl (fun _ => rfl) rfl rfl ?_
  refine FL.val (fun _ => OV.nilCheck rfl) rfl (fun _ => rfl) rfl rfl ?_
  refine FL.val (fun _ => OV.fieldAddr0 rfl tf_field_222_1) rfl (fun _ => rfl) rfl rfl ?_
  refine FL.val (fun _ => OV.load rfl (At.ro 0 rfl) rfl tf_scal_3) rfl (fun _ => rfl) rfl rfl ?_
  refine FL.weak (L' := fun γ => [(17, st r_0), (21, zI r_1)]) (fun γ => ⟨rfl, rfl, trivial⟩) (FL.nil (hT_1' (fun γ => [(17, st r_0), (21, zI r_1)]) (fun γ => ?_)))
  obtain ⟨o, h⟩ := h
  refine wv (OV.index rfl rfl tf_str_9 o) ?_
  refine wv (OV.assign rfl) ?_
  refine wv (OV.assign rfl) ?_
  refine WL.nil ?_
  refine KX.go (hK_3' [(2, zU ((r_0.getD r_1.toNat 0).toNat : Int)), (3, zB true)] _ ?_) ⟨rfl, rfl, trivial⟩
  refine wc_ret ?_
  exact hE.ret [] rfl rfl (.inl ⟨_, _, h, rfl⟩) (ResV.of2 rfl (RV.tmp rfl) (RV.tmp rfl))
 ·replace h := if_F h hb
  refine wc_skip ?_
  refine KX.go (hK_1' [] _ ?_) trivial
  refine wc_seq (fun K0_4' hK_4' => ?_)
  refine wc_region ?_
  refine wv (OV.assign rfl) ?_
  refine wv (OV.assign rfl) ?_
  refine WL.nil ?_
  refine KX.go (hK_4' [(2, zU 0), (3, zB false)] _ ?_) ⟨rfl, rfl, trivial⟩
  refine wc_ret ?_
  exact hE.ret [] rfl rfl (.inl ⟨_, _, h, rfl⟩) (ResV.of2 rfl (RV.tmp rfl) (RV.tmp rfl))

def fail_vc (_ : Value) (at0 : Int) (_ : Prop) (KP : Value → Prop) : Prop :=
 KP (Value.iface 26 (Value.agg [zI 10, zI at0, st []].toArray))
set_option maxRecDepth 100000 in
theorem fail_wp  (r : Value) (at0 : Int) (K : Prop) (KP : Value → Prop) (h : fail_vc r at0 K KP) :
  Does Tryd.prog 179 [r, zI at0] [] [] (fun o => (K ∧ o = .ret (Value.tuple #[]) []) ∨ (∃ (pv : Value), KP pv ∧ o = .pan [{ v := pv, recovered := false }] [])) := by
 unfold fail_vc at h
 refine does_of_wc (n := 7) (L0 := [(0, r), (1, zI at0)]) Tryd.func179 rfl rfl rfl rfl (fun w0 M Q hE => ?_)
 refine wc_region ?_
 refine wv (OV.move rfl) ?_
 refine wv (OV.build rfl (cs := [zI 10, zI at0, st []]) rfl) ?_
 refine wv (OV.iface rfl tf_conc_26) ?_
 refine WL.panic rfl rfl ?_
 exact hE.pan [] rfl rfl (.inr ⟨_, h, rfl⟩)

end Go.Proofs.YtohnchdnkbadaaaDoor
namespace Go.Proofs.YtohnchdnkbadaaaDoor
open Go Go.RowKit

def peekB (t : List UInt8) (a : Int) : Int := if a < t.length then ((t.getD a.toNat 0).toNat : Int) else 0
def peekOk (t : List UInt8) (a : Int) : Bool := decide (a < t.length)
def refHex (c : Int) : Int := if 48 ≤ c ∧ c ≤ 57 then c - 48 else if 97 ≤ c ∧ c ≤ 102 then c - 87 else -1

set_option maxRecDepth 100000 in
theorem refhex_does (c : Int) (h : 0 ≤ c ∧ c < 256) : Does Tryd.prog 120 [.int .u8 c] [] [] (Ret (.int .i64 (refHex c)) []) := by
 refine (refhex_wp c (fun r => r = refHex c) ?_).weak ?_
 ·unfold refhex_vc refHex
  by_cases h1 : 48 ≤ c ∧ c ≤ 57
  ·rw [if_pos (by simpa using h1), if_pos h1, IntWalk.u8_in _ (by omega)]; exact ⟨⟨by omega, by omega⟩, rfl⟩
  ·rw [if_neg (by simpa using h1), if_neg h1]
   by_cases h2 : 97 ≤ c ∧ c ≤ 102
   ·rw [if_pos (by simpa using h2), if_pos h2, IntWalk.u8_in _ (by omega)]; exact ⟨⟨by omega, by omega⟩, ⟨by omega, by omega⟩, by omega⟩
   ·rw [if_neg (by simpa using h2), if_neg h2]
 ·rintro o (⟨v, rfl, rfl⟩ | h)
  ·rfl
  ·exact h.elim
set_option maxRecDepth 100000 in
theorem peek_does (b : Nat) (t : List UInt8) (a : Int) (h : 0 ≤ a) : Does Tryd.prog 178 [.pointer (some ⟨b, 0, none⟩)] [(b, .cells [st t, .int .i64 a].toArray 222 (0, 0))] [] (Ret (.tuple #[.int .u8 (peekB t a), .bool (peekOk t a)]) []) := by
 refine (peek_wp b t a (fun r o => r = peekB t a ∧ o = peekOk t a) ?_).weak ?_
 ·unfold peek_vc peekB peekOk
  by_cases hlt : a < t.length <;> simp [hlt, h]
 ·rintro o (⟨v, v2, ⟨rfl, rfl⟩, rfl⟩ | h)
  ·rfl
  ·exact h.elim
set_option maxRecDepth 100000 in
theorem fail_does (b : Nat) (p : Int) : Does Tryd.prog 179 [.pointer (some ⟨b, 0, none⟩), .int .i64 p] [] [] (fun o => o = .pan [{ v := faultV 10 p, recovered := false }] []) := by
 refine (fail_wp _ p False (fun v => v = faultV 10 p) rfl).weak ?_
 rintro o (⟨h, _⟩ | ⟨v, rfl, rfl⟩)
 ·exact h.elim
 ·rfl

/-- A digit of a stroke's number. -/
def hexM (t : List UInt8) (a : Int) : Except Int (Int × Int) :=
 if a < t.length ∧ 0 ≤ refHex (peekB t a) then .ok (refHex (peekB t a), a + 1) else .error a
/-- What stands behind a stroke. -/
def escM (t : List UInt8) (a : Int) : Except Int (Int × Int) :=
 if a < t.length then
  let c := peekB t a
  if c = 110 then .ok (10, a + 1)
  else if c = 114 then .ok (13, a + 1)
  else if c = 116 then .ok (9, a + 1)
  else if c = 120 then match hexM t (a + 1) with
   | .ok (hi, p) => match hexM t p with
    | .ok (lo, q) => .ok (16 * hi + lo, q)
    | .error e => .error e
   | .error e => .error e
  else if c < 32 ∨ 126 < c ∨ (48 ≤ c ∧ c ≤ 57) ∨ (97 ≤ c ∧ c ≤ 122) ∨ (65 ≤ c ∧ c ≤ 90) then .error a
  else .ok (c, a + 1)
 else .error a
def oneM (t : List UInt8) (a : Int) (bar : List UInt8) : Except Int (Int × Int) :=
 if a < t.length then
  let c := peekB t a
  if c = 92 then escM t (a + 1)
  else if c < 32 ∨ 126 < c ∨ bar.contains c.toNat.toUInt8 = true then .error a
  else .ok (c, a + 1)
 else .error a
end Go.Proofs.YtohnchdnkbadaaaDoor
namespace Go.Proofs.YtohnchdnkbadaaaDoor
open Go Go.RowKit

theorem tf_ent_178 : entB Tryd.prog 178 = true := by kernel_rfl
theorem tf_ent_135 : entB Tryd.prog 135 = true := by kernel_rfl
theorem tf_ent_179 : entB Tryd.prog 179 = true := by kernel_rfl
theorem tf_size_3 : sizeB Tryd.prog 3 1 = true := by kernel_rfl
theorem tf_some_3 : (Tryd.prog.underlying 3).isSome = true := by kernel_rfl
theorem tf_row_214 : RowT Tryd.prog 214 6 := ⟨by kernel_rfl, by kernel_rfl⟩
theorem tf_arr_214 : arrB Tryd.prog 214 213 3 2 = true := by kernel_rfl
theorem tf_row_213 : RowT Tryd.prog 213 2 := ⟨by kernel_rfl, by kernel_rfl⟩
theorem tf_zero_213 : zeroB Tryd.prog 213 = some [zU 0, zU 0] := by kernel_rfl
theorem tf_size_213 : sizeB Tryd.prog 213 2 = true := by kernel_rfl
theorem tf_field_213_0 : fieldOff Tryd.prog 213 0 = some 0 := by kernel_rfl
theorem tf_scal_5 : scalB Tryd.prog 5 = true := by kernel_rfl
theorem tf_field_213_1 : fieldOff Tryd.prog 213 1 = some 1 := by kernel_rfl
theorem tf_ent_182 : entB Tryd.prog 182 = true := by kernel_rfl
theorem tf_ent_181 : entB Tryd.prog 181 = true := by kernel_rfl

def hex_vc (r_0 : List UInt8) (r_1 : Int) (K : Int → (List UInt8) → Int → Prop) (KP : Value → (List UInt8) → Int → Prop) : Prop :=
 (0 ≤ r_1) ∧
 (if ((!(peekOk r_0 r_1)) || (decide (Lib.indexByte ([48, 49, 50, 51, 52, 53, 54, 55, 56, 57, 97, 98, 99, 100, 101, 102] : List UInt8) (peekB r_0 r_1).toNat.toUInt8 < 0))) = true then
  KP (faultV 10 r_1) r_0 r_1
 else
  (I64 (r_1 + 1)) ∧
  K (IntKind.wrap .u8 (Lib.indexByte ([48, 49, 50, 51, 52, 53, 54, 55, 56, 57, 97, 98, 99, 100, 101, 102] : List UInt8) (peekB r_0 r_1).toNat.toUInt8)) r_0 (r_1 + 1))
set_option maxRecDepth 100000 in
theorem hex_wp (b : Nat) (r_0 : List UInt8) (r_1 : Int) (K : Int → (List UInt8) → Int → Prop) (KP : Value → (List UInt8) → Int → Prop) (h : hex_vc r_0 r_1 K KP) :
  Does Tryd.prog 182 [zP b] [] [HA.blk b (.cells [st r_0, zI r_1].toArray 222 (0, 0))] (fun o => (∃ (v : Int) (d_0 : List UInt8) (d_1 : Int), K v d_0 d_1 ∧ o = .ret (zU v) [HA.blk b (.cells [st d_0, zI d_1].toArray 222 (0, 0))]) ∨ (∃ (pv : Value) (d_0 : List UInt8) (d_1 : Int), KP pv d_0 d_1 ∧ o = .pan [{ v := pv, recovered := false }] [HA.blk b (.cells [st d_0, zI d_1].toArray 222 (0, 0))])) := by
 unfold hex_vc at h
 refine does_of_wc (n := 34) (L0 := [(0, zP b)]) Tryd.func182 rfl rfl rfl rfl (fun w0 M Q hE => ?_)
 refine wc_seq (fun K0 hK => ?_)
 refine wc_region ?_
 refine wv (OV.assign rfl) ?_
 refine WL.nil ?_
 refine KX.go (hK [(0, zP b)] _ ?_) ⟨rfl, trivial⟩
 refine wc_seq (fun K0_1' hK_1' => ?_)
 refine wc_region ?_
 refine wv (OV.move rfl) ?_
 obtain ⟨o, h⟩ := h
 refine WL.call (A := []) tf_ent_178 rfl (peek_does b r_0 r_1 o) rfl ⟨.inl ⟨0, rfl⟩, trivial⟩ rfl rfl ?_
 refine wv (OV.move rfl) ?_
 refine wv (OV.extract 0 rfl rfl) ?_
 refine wv (OV.extract 1 rfl rfl) ?_
 refine wv (OV.assign rfl) ?_
 refine wv (OV.assign rfl) ?_
 refine WL.nil ?_
 refine KX.go (hK_1' [(0, zP b), (3, zU (peekB r_0 r_1)), (4, zB (peekOk r_0 r_1))] _ ?_) ⟨rfl, rfl, rfl, trivial⟩
 refine wc_seq (fun K0_2' hK_2' => ?_)
 refine wc_region ?_
 refine wv (OV.move rfl) ?_
 refine WL.call (A := []) tf_ent_135 rfl (indexByte_does ([48, 49, 50, 51, 52, 53, 54, 55, 56, 57, 97, 98, 99, 100, 101, 102] : List UInt8) (peekB r_0 r_1)) rfl trivial rfl rfl ?_
 refine wv (OV.assign rfl) ?_
 refine WL.nil ?_
 refine KX.go (hK_2' [(0, zP b), (4, zB (peekOk r_0 r_1)), (5, zI (Lib.indexByte ([48, 49, 50, 51, 52, 53, 54, 55, 56, 57, 97, 98, 99, 100, 101, 102] : List UInt8) (peekB r_0 r_1).toNat.toUInt8))] _ ?_) ⟨rfl, rfl, rfl, trivial⟩
 refine wc_seq (fun K0_3' hK_3' => ?_)
 refine wc_seq (fun K0_4' hK_4' => ?_)
 refine wc_region ?_
 refine wv (OV.move rfl) ?_
 refine wv (OV.not rfl) ?_
 refine wv (OV.move rfl) ?_
 refine WL.cut 3 [(0, zP b), (5, zI (Lib.indexByte ([48, 49, 50, 51, 52, 53, 54, 55, 56, 57, 97, 98, 99, 100, 101, 102] : List UInt8) (peekB r_0 r_1).toNat.toUInt8)), (18, zB ((!(peekOk r_0 r_1)) || (decide (Lib.indexByte ([48, 49, 50, 51, 52, 53, 54, 55, 56, 57, 97, 98, 99, 100, 101, 102] : List UInt8) (peekB r_0 r_1).toNat.toUInt8 < 0))))] ?_ (fun K0_5' hK_5' => ?_)
 rotate_left
 ·refine WL.split (!(peekOk r_0 r_1)) (fun hb => ?_) (fun hb => ?_)
  ·refine WL.set 15 rfl (congrArg zB hb) ?_
   refine WL.skip rfl rfl rfl ?_
   refine WL.skip rfl rfl rfl ?_
   refine wv (OV.pickT rfl rfl) ?_
   refine WL.set 18 rfl (oT (v := decide (Lib.indexByte ([48, 49, 50, 51, 52, 53, 54, 55, 56, 57, 97, 98, 99, 100, 101, 102] : List UInt8) (peekB r_0 r_1).toNat.toUInt8 < 0)) hb) ?_
   exact WL.end_ (KX.go hK_5' ⟨rfl, rfl, rfl, trivial⟩)
  ·refine WL.set 15 rfl (congrArg zB hb) ?_
   refine wv (OV.move rfl) ?_
   refine wv (OV.lss rfl rfl) ?_
   refine wv (OV.pickF rfl rfl) ?_
   refine WL.set 18 rfl (oF (v := decide (Lib.indexByte ([48, 49, 50, 51, 52, 53, 54, 55, 56, 57, 97, 98, 99, 100, 101, 102] : List UInt8) (peekB r_0 r_1).toNat.toUInt8 < 0)) hb) ?_
   exact WL.end_ (KX.go hK_5' ⟨rfl, rfl, rfl, trivial⟩)
 refine WL.nil ?_
 refine KX.go (hK_4' [(0, zP b), (5, zI (Lib.indexByte ([48, 49, 50, 51, 52, 53, 54, 55, 56, 57, 97, 98, 99, 100, 101, 102] : List UInt8) (peekB r_0 r_1).toNat.toUInt8)), (18, zB ((!(peekOk r_0 r_1)) || (decide (Lib.indexByte ([48, 49, 50, 51, 52, 53, 54, 55, 56, 57, 97, 98, 99, 100, 101, 102] : List UInt8) (peekB r_0 r_1).toNat.toUInt8 < 0))))] _ ?_) ⟨rfl, rfl, rfl, trivial⟩
 refine wc_cond (b := (!(peekOk r_0 r_1)) || (decide (Lib.indexByte ([48, 49, 50, 51, 52, 53, 54, 55, 56, 57, 97, 98, 99, 100, 101, 102] : List UInt8) (peekB r_0 r_1).toNat.toUInt8 < 0))) rfl (fun hb => ?_) (fun hb => ?_)
 ·replace h := if_T h hb
  refine wc_region ?_
  refine wv (OV.move rfl) ?_
  refine wv (OV.move rfl) ?_
  refine wv (OV.nilCheck rfl) ?_
  refine wv (OV.fieldAddr0 rfl tf_field_222_1) ?_
  refine wv (OV.load rfl (At.own 0 rfl) rfl tf_scal_3) ?_
  refine WL.callS tf_ent_179 rfl (fail_does b r_1) rfl trivial rfl rfl (fun r H' hS => by cases hS) (fun c H' hS => ?_)
  cases hS
  exact hE.pan [0] rfl rfl (.inr ⟨_, _, _, h, rfl⟩)
 ·replace h := if_F h hb
  refine wc_skip ?_
  refine KX.go (hK_3' [(0, zP b), (5, zI (Lib.indexByte ([48, 49, 50, 51, 52, 53, 54, 55, 56, 57, 97, 98, 99, 100, 101, 102] : List UInt8) (peekB r_0 r_1).toNat.toUInt8))] _ ?_) ⟨rfl, rfl, trivial⟩
  refine wc_seq (fun K0_6' hK_6' => ?_)
  refine wc_region ?_
  refine wv (OV.move rfl) ?_
  refine wv (OV.nilCheck rfl) ?_
  refine wv (OV.fieldAddr0 rfl tf_field_222_1) ?_
  refine wv (OV.load rfl (At.own 0 rfl) rfl tf_scal_3) ?_
  obtain ⟨o_2', h⟩ := h
  refine wv (OV.add rfl rfl o_2') ?_
  refine wv (OV.nilCheck rfl) ?_
  refine wv (OV.fieldAddr0 rfl tf_field_222_1) ?_
  refine WL.store (vs := [zI (r_1 + 1)]) (cs' := [st r_0, zI (r_1 + 1)]) 0 rfl rfl rfl rfl tf_size_3 (Nat.le_of_ble_eq_true rfl) rfl rfl rfl ?_
  refine WL.nil ?_
  refine KX.go (hK_6' [(5, zI (Lib.indexByte ([48, 49, 50, 51, 52, 53, 54, 55, 56, 57, 97, 98, 99, 100, 101, 102] : List UInt8) (peekB r_0 r_1).toNat.toUInt8))] _ ?_) ⟨rfl, trivial⟩
  refine wc_seq (fun K0_7' hK_7' => ?_)
  refine wc_region ?_
  refine wv (OV.move rfl) ?_
  refine wv (OV.conv rfl tf_some_3 Tryd.underlying5) ?_
  refine wv (OV.assign rfl) ?_
  refine WL.nil ?_
  refine KX.go (hK_7' [(2, zU (IntKind.wrap .u8 (Lib.indexByte ([48, 49, 50, 51, 52, 53, 54, 55, 56, 57, 97, 98, 99, 100, 101, 102] : List UInt8) (peekB r_0 r_1).toNat.toUInt8)))] _ ?_) ⟨rfl, trivial⟩
  refine wc_ret ?_
  exact hE.ret [0] rfl rfl (.inl ⟨_, _, _, h, rfl⟩) (ResV.of1 rfl (RV.tmp rfl))

set_option maxRecDepth 100000 in
theorem idx_hex (c : Int) (h : 0 ≤ c ∧ c < 256) : Lib.indexByte [48, 49, 50, 51, 52, 53, 54, 55, 56, 57, 97, 98, 99, 100, 101, 102] c.toNat.toUInt8 = refHex c := by
 obtain ⟨n, hn, rfl⟩ := nat_of h
 simp only [Int.toNat_natCast]
 revert n; decide
theorem peekB_bd (t : List UInt8) (a : Int) : 0 ≤ peekB t a ∧ peekB t a < 256 := by
 unfold peekB
 split
 ·have := (t.getD a.toNat 0).toNat_lt; omega
 ·omega
theorem refHex_bd {c : Int} : -1 ≤ refHex c ∧ refHex c ≤ 15 := by unfold refHex; split <;> (try split) <;> omega
abbrev rdBlk (b : Nat) (t : List UInt8) (a : Int) : HA := .blk b (.cells [st t, .int .i64 a].toArray 222 (0, 0))
/-- What a reading function comes to: a value and a place, or a fault. -/
def RdOut (b : Nat) (t : List UInt8) (enc : Int → Value) (m : Except Int (Int × Int)) : Out → Prop := fun o =>
 (∃ r q, m = .ok (r, q) ∧ o = .ret (enc r) [rdBlk b t q]) ∨ (∃ e q, m = .error e ∧ o = .pan [{ v := faultV 10 e, recovered := false }] [rdBlk b t q])
theorem hex_does (b : Nat) (t : List UInt8) (a : Int) (h : 0 ≤ a ∧ a ≤ t.length ∧ t.length ≤ 9223372036854775807) : Does Tryd.prog 182 [.pointer (some ⟨b, 0, none⟩)] [] [rdBlk b t a] (RdOut b t (fun r => .int .u8 r) (hexM t a)) := by
 refine (hex_wp b t a (fun r t' q => t' = t ∧ hexM t a = .ok (r, q)) (fun v t' _ => t' = t ∧ ∃ e, hexM t a = .error e ∧ v = faultV 10 e) ?_).weak ?_
 ·have hb := peekB_bd t a
  have hr := refHex_bd (c := peekB t a)
  unfold hex_vc
  rw [idx_hex _ hb]
  unfold hexM peekOk
  refine ⟨h.1, ?_⟩
  by_cases h1 : a < t.length ∧ 0 ≤ refHex (peekB t a)
  ·rw [if_neg (by simp; omega), IntWalk.u8_in _ (by omega), if_pos h1]
   exact ⟨⟨by omega, by omega⟩, rfl, rfl⟩
  ·rw [if_pos (by simp; omega), if_neg h1]
   exact ⟨rfl, _, rfl, rfl⟩
 ·rintro o (⟨r, t', q, ⟨rfl, hm⟩, rfl⟩ | ⟨v, t', q, ⟨rfl, e, hm, rfl⟩, rfl⟩)
  ·exact .inl ⟨r, q, hm, rfl⟩
  ·exact .inr ⟨e, q, hm, rfl⟩

def escape_vc (r_0 : List UInt8) (r_1 : Int) (K : Int → (List UInt8) → Int → Prop) (KP : Value → (List UInt8) → Int → Prop) : Prop :=
 (0 ≤ r_1) ∧
 (if (!(peekOk r_0 r_1)) = true then
  KP (faultV 10 r_1) r_0 r_1
 else
  (if (decide (110 = peekB r_0 r_1)) = true then
   (I64 (r_1 + 1)) ∧
   K 10 r_0 (r_1 + 1)
  else
   (if (decide (114 = peekB r_0 r_1)) = true then
    (I64 (r_1 + 1)) ∧
    K 13 r_0 (r_1 + 1)
   else
    (if (decide (116 = peekB r_0 r_1)) = true then
     (I64 (r_1 + 1)) ∧
     K 9 r_0 (r_1 + 1)
    else
     (if (decide (peekB r_0 r_1 = 120)) = true then
      (I64 (r_1 + 1)) ∧
      (0 ≤ r_1 + 1 ∧ r_1 + 1 ≤ r_0.length ∧ r_0.length ≤ 9223372036854775807) ∧
      (∀ (r_1' : Int) (at0 : Int), hexM r_0 (r_1 + 1) = .ok (r_1', at0) →
       (0 ≤ at0 ∧ at0 ≤ r_0.length ∧ r_0.length ≤ 9223372036854775807) ∧
       (∀ (r_2' : Int) (at0_2' : Int), hexM r_0 at0 = .ok (r_2', at0_2') →
        K (bits .or .u8 (IntKind.wrap .u8 (r_1' * 2 ^ (4 : Int).toNat)) r_2') r_0 at0_2') ∧
       (∀ (e_1' : Int) (at0_3' : Int), hexM r_0 at0 = .error e_1' →
        KP (faultV 10 e_1') r_0 at0_3')) ∧
      (∀ (e : Int) (at0_1' : Int), hexM r_0 (r_1 + 1) = .error e →
       KP (faultV 10 e) r_0 at0_1')
     else
      (if (((((decide (peekB r_0 r_1 < 32)) || (decide (126 < peekB r_0 r_1))) || ((decide (48 ≤ peekB r_0 r_1)) && (decide (peekB r_0 r_1 ≤ 57)))) || ((decide (97 ≤ peekB r_0 r_1)) && (decide (peekB r_0 r_1 ≤ 122)))) || ((decide (65 ≤ peekB r_0 r_1)) && (decide (peekB r_0 r_1 ≤ 90)))) = true then
       KP (faultV 10 r_1) r_0 r_1
      else
       (I64 (r_1 + 1)) ∧
       K (peekB r_0 r_1) r_0 (r_1 + 1)))))))
set_option maxRecDepth 100000 in
theorem escape_wp (b : Nat) (te : TypeId) (fre : Nat × Nat) (r_0 : List UInt8) (r_1 : Int) (K : Int → (List UInt8) → Int → Prop) (KP : Value → (List UInt8) → Int → Prop) (h : escape_vc r_0 r_1 K KP) :
  Does Tryd.prog 181 [zP b] [(1, .cells [zU 110, zU 10, zU 114, zU 13, zU 116, zU 9].toArray te fre)] [HA.blk b (.cells [st r_0, zI r_1].toArray 222 (0, 0))] (fun o => (∃ (v : Int) (d_0 : List UInt8) (d_1 : Int), K v d_0 d_1 ∧ o = .ret (zU v) [HA.blk b (.cells [st d_0, zI d_1].toArray 222 (0, 0))]) ∨ (∃ (pv : Value) (d_0 : List UInt8) (d_1 : Int), KP pv d_0 d_1 ∧ o = .pan [{ v := pv, recovered := false }] [HA.blk b (.cells [st d_0, zI d_1].toArray 222 (0, 0))])) := by
 unfold escape_vc at h
 refine does_of_wc (n := 99) (L0 := [(0, zP b)]) Tryd.func181 rfl rfl rfl rfl (fun w0 M Q hE => ?_)
 refine wc_seq (fun K0 hK => ?_)
 refine wc_region ?_
 refine wv (OV.assign rfl) ?_
 refine WL.nil ?_
 refine KX.go (hK [(0, zP b)] _ ?_) ⟨rfl, trivial⟩
 refine wc_seq (fun K0_1' hK_1' => ?_)
 refine wc_region ?_
 refine wv (OV.move rfl) ?_
 obtain ⟨o, h⟩ := h
 refine WL.call (A := []) tf_ent_178 rfl (peek_does b r_0 r_1 o) rfl ⟨.inl ⟨0, rfl⟩, trivial⟩ rfl rfl ?_
 refine wv (OV.move rfl) ?_
 refine wv (OV.extract 0 rfl rfl) ?_
 refine wv (OV.extract 1 rfl rfl) ?_
 refine wv (OV.assign rfl) ?_
 refine wv (OV.assign rfl) ?_
 refine WL.nil ?_
 refine KX.go (hK_1' [(0, zP b), (3, zU (peekB r_0 r_1)), (4, zB (peekOk r_0 r_1))] _ ?_) ⟨rfl, rfl, rfl, trivial⟩
 refine wc_seq (fun K0_2' hK_2' => ?_)
 refine wc_seq (fun K0_3' hK_3' => ?_)
 refine wc_region ?_
 refine wv (OV.move rfl) ?_
 refine wv (OV.not rfl) ?_
 refine WL.nil ?_
 refine KX.go (hK_3' [(0, zP b), (3, zU (peekB r_0 r_1)), (14, zB (!(peekOk r_0 r_1)))] _ ?_) ⟨rfl, rfl, rfl, trivial⟩
 refine wc_cond (b := !(peekOk r_0 r_1)) rfl (fun hb => ?_) (fun hb => ?_)
 ·replace h := if_T h hb
  refine wc_region ?_
  refine wv (OV.move rfl) ?_
  refine wv (OV.move rfl) ?_
  refine wv (OV.nilCheck rfl) ?_
  refine wv (OV.fieldAddr0 rfl tf_field_222_1) ?_
  refine wv (OV.load rfl (At.own 0 rfl) rfl tf_scal_3) ?_
  refine WL.callS tf_ent_179 rfl (fail_does b r_1) rfl trivial rfl rfl (fun r H' hS => by cases hS) (fun c H' hS => ?_)
  cases hS
  exact hE.pan [0] rfl rfl (.inr ⟨_, _, _, h, rfl⟩)
 ·replace h := if_F h hb
  refine wc_skip ?_
  refine KX.go (hK_2' [(0, zP b), (3, zU (peekB r_0 r_1))] _ ?_) ⟨rfl, rfl, trivial⟩
  refine wc_seq (fun K0_4' hK_4' => ?_)
  refine wc_seq (fun K0_5' hK_5' => ?_)
  refine wc_region ?_
  refine wv (OV.loadR rfl (At.ro 0 rfl) tf_row_214) ?_
  refine wv (OV.move rfl) ?_
  refine WL.nil ?_
  refine KX.go (hK_5' [(0, zP b), (3, zU (peekB r_0 r_1)), (21, Value.agg [zU 110, zU 10, zU 114, zU 13, zU 116, zU 9].toArray), (22, zI 0)] _ ?_) ⟨rfl, rfl, rfl, rfl, trivial⟩
  refine wc_block ?_
  refine wc_rounds 4 ?_
  refine RC.succ (fun K0_6' hK_6' => ?_)
  refine wc_seq (fun K0_7' hK_7' => ?_)
  refine wc_region ?_
  refine wv (OV.lss rfl rfl) ?_
  refine WL.nil ?_
  refine KX.go (hK_7' [(0, zP b), (3, zU (peekB r_0 r_1)), (21, Value.agg [zU 110, zU 10, zU 114, zU 13, zU 116, zU 9].toArray), (22, zI 0), (23, zB true)] _ ?_) ⟨rfl, rfl, rfl, rfl, rfl, trivial⟩
  refine wc_seq (fun K0_8' hK_8' => ?_)
  refine wc_condT rfl ?_
  refine wc_skip ?_
  refine KX.go (hK_8' [(0, zP b), (3, zU (peekB r_0 r_1)), (21, Value.agg [zU 110, zU 10, zU 114, zU 13, zU 116, zU 9].toArray), (22, zI 0)] _ ?_) ⟨rfl, rfl, rfl, rfl, trivial⟩
  refine wc_seq (fun K0_9' hK_9' => ?_)
  refine wc_block ?_
  refine wc_seq (fun K0_10' hK_10' => ?_)
  refine wc_region ?_
  refine wv (OV.indexM (vs := [zU 110, zU 10]) rfl rfl tf_arr_214 (by decide) tf_row_213 rfl) ?_
  refine WL.make (MV.alloc tf_zero_213) rfl rfl rfl (fun b_1' => ?_)
  refine WL.storeW (vs := [zU 110, zU 10]) 0 rfl rfl rfl rfl rfl tf_size_213 rfl rfl rfl ?_
  refine WL.nil ?_
  refine KX.go (hK_10' [(0, zP b), (3, zU (peekB r_0 r_1)), (6, zP b_1'), (21, Value.agg [zU 110, zU 10, zU 114, zU 13, zU 116, zU 9].toArray), (22, zI 0)] _ ?_) ⟨rfl, rfl, rfl, rfl, rfl, trivial⟩
  refine wc_seq (fun K0_11' hK_11' => ?_)
  refine wc_region ?_
  refine wv (OV.fieldAddr0 rfl tf_field_213_0) ?_
  refine wv (OV.load rfl (At.own 0 rfl) rfl tf_scal_5) ?_
  refine wv (OV.move rfl) ?_
  refine wv (OV.eql rfl rfl) ?_
  refine WL.nil ?_
  refine KX.go (hK_11' [(0, zP b), (3, zU (peekB r_0 r_1)), (6, zP b_1'), (21, Value.agg [zU 110, zU 10, zU 114, zU 13, zU 116, zU 9].toArray), (22, zI 0), (28, zB (decide (110 = peekB r_0 r_1)))] _ ?_) ⟨rfl, rfl, rfl, rfl, rfl, rfl, trivial⟩
  refine wc_cond (b := decide (110 = peekB r_0 r_1)) rfl (fun hb => ?_) (fun hb => ?_)
  ·replace h := if_T h hb
   refine wc_seq (fun K0_12' hK_12' => ?_)
   refine wc_region ?_
   refine wv (OV.move rfl) ?_
   refine wv (OV.nilCheck rfl) ?_
   refine wv (OV.fieldAddr0 rfl tf_field_222_1) ?_
   refine wv (OV.load rfl (At.own 1 rfl) rfl tf_scal_3) ?_
   obtain ⟨o_1', h⟩ := h
   refine wv (OV.add rfl rfl o_1') ?_
   refine wv (OV.nilCheck rfl) ?_
   refine wv (OV.fieldAddr0 rfl tf_field_222_1) ?_
   refine WL.store (vs := [zI (r_1 + 1)]) (cs' := [st r_0, zI (r_1 + 1)]) 1 rfl rfl rfl rfl tf_size_3 (Nat.le_of_ble_eq_true rfl) rfl rfl rfl ?_
   refine WL.nil ?_
   refine KX.go (hK_12' [(6, zP b_1')] _ ?_) ⟨rfl, trivial⟩
   refine wc_seq (fun K0_13' hK_13' => ?_)
   refine wc_region ?_
   refine wv (OV.fieldAddr0 rfl tf_field_213_1) ?_
   refine wv (OV.load rfl (At.own 0 rfl) rfl tf_scal_5) ?_
   refine wv (OV.assign rfl) ?_
   refine WL.nil ?_
   refine KX.go (hK_13' [(2, zU 10)] _ ?_) ⟨rfl, trivial⟩
   refine wc_ret ?_
   exact hE.ret [1] rfl rfl (.inl ⟨_, _, _, h, rfl⟩) (ResV.of1 rfl (RV.tmp rfl))
  ·replace h := if_F h hb
   refine wc_skip ?_
   refine KX.go (hK_9' [(0, zP b), (3, zU (peekB r_0 r_1)), (21, Value.agg [zU 110, zU 10, zU 114, zU 13, zU 116, zU 9].toArray), (22, zI 0)] _ ?_) ⟨rfl, rfl, rfl, rfl, trivial⟩
   refine wc_region ?_
   refine wv (OV.add rfl rfl ⟨by decide, by decide⟩) ?_
   refine wv (OV.move rfl) ?_
   refine WL.nil ?_
   refine KX.go (hK_6' [(0, zP b), (3, zU (peekB r_0 r_1)), (21, Value.agg [zU 110, zU 10, zU 114, zU 13, zU 116, zU 9].toArray), (22, zI 1)] _ ?_) ⟨rfl, rfl, rfl, rfl, trivial⟩
   refine RC.succ (fun K0_14' hK_14' => ?_)
   refine wc_seq (fun K0_15' hK_15' => ?_)
   refine wc_region ?_
   refine wv (OV.lss rfl rfl) ?_
   refine WL.nil ?_
   refine KX.go (hK_15' [(0, zP b), (3, zU (peekB r_0 r_1)), (21, Value.agg [zU 110, zU 10, zU 114, zU 13, zU 116, zU 9].toArray), (22, zI 1), (23, zB true)] _ ?_) ⟨rfl, rfl, rfl, rfl, rfl, trivial⟩
   refine wc_seq (fun K0_16' hK_16' => ?_)
   refine wc_condT rfl ?_
   refine wc_skip ?_
   refine KX.go (hK_16' [(0, zP b), (3, zU (peekB r_0 r_1)), (21, Value.agg [zU 110, zU 10, zU 114, zU 13, zU 116, zU 9].toArray), (22, zI 1)] _ ?_) ⟨rfl, rfl, rfl, rfl, trivial⟩
   refine wc_seq (fun K0_17' hK_17' => ?_)
   refine wc_block ?_
   refine wc_seq (fun K0_18' hK_18' => ?_)
   refine wc_region ?_
   refine wv (OV.indexM (vs := [zU 114, zU 13]) rfl rfl tf_arr_214 (by decide) tf_row_213 rfl) ?_
   refine WL.make (MV.alloc tf_zero_213) rfl rfl rfl (fun b_2' => ?_)
   refine WL.storeW (vs := [zU 114, zU 13]) 0 rfl rfl rfl rfl rfl tf_size_213 rfl rfl rfl ?_
   refine WL.nil ?_
   refine KX.go (hK_18' [(0, zP b), (3, zU (peekB r_0 r_1)), (6, zP b_2'), (21, Value.agg [zU 110, zU 10, zU 114, zU 13, zU 116, zU 9].toArray), (22, zI 1)] _ ?_) ⟨rfl, rfl, rfl, rfl, rfl, trivial⟩
   refine wc_seq (fun K0_19' hK_19' => ?_)
   refine wc_region ?_
   refine wv (OV.fieldAddr0 rfl tf_field_213_0) ?_
   refine wv (OV.load rfl (At.own 0 rfl) rfl tf_scal_5) ?_
   refine wv (OV.move rfl) ?_
   refine wv (OV.eql rfl rfl) ?_
   refine WL.nil ?_
   refine KX.go (hK_19' [(0, zP b), (3, zU (peekB r_0 r_1)), (6, zP b_2'), (21, Value.agg [zU 110, zU 10, zU 114, zU 13, zU 116, zU 9].toArray), (22, zI 1), (28, zB (decide (114 = peekB r_0 r_1)))] _ ?_) ⟨rfl, rfl, rfl, rfl, rfl, rfl, trivial⟩
   refine wc_cond (b := decide (114 = peekB r_0 r_1)) rfl (fun hb => ?_) (fun hb => ?_)
   ·replace h := if_T h hb
    refine wc_seq (fun K0_20' hK_20' => ?_)
    refine wc_region ?_
    refine wv (OV.move rfl) ?_
    refine wv (OV.nilCheck rfl) ?_
    refine wv (OV.fieldAddr0 rfl tf_field_222_1) ?_
    refine wv (OV.load rfl (At.own 2 rfl) rfl tf_scal_3) ?_
    obtain ⟨o_2', h⟩ := h
    refine wv (OV.add rfl rfl o_2') ?_
    refine wv (OV.nilCheck rfl) ?_
    refine wv (OV.fieldAddr0 rfl tf_field_222_1) ?_
    refine WL.store (vs := [zI (r_1 + 1)]) (cs' := [st r_0, zI (r_1 + 1)]) 2 rfl rfl rfl rfl tf_size_3 (Nat.le_of_ble_eq_true rfl) rfl rfl rfl ?_
    refine WL.nil ?_
    refine KX.go (hK_20' [(6, zP b_2')] _ ?_) ⟨rfl, trivial⟩
    refine wc_seq (fun K0_21' hK_21' => ?_)
    refine wc_region ?_
    refine wv (OV.fieldAddr0 rfl tf_field_213_1) ?_
    refine wv (OV.load rfl (At.own 0 rfl) rfl tf_scal_5) ?_
    refine wv (OV.assign rfl) ?_
    refine WL.nil ?_
    refine KX.go (hK_21' [(2, zU 13)] _ ?_) ⟨rfl, trivial⟩
    refine wc_ret ?_
    exact hE.ret [2] rfl rfl (.inl ⟨_, _, _, h, rfl⟩) (ResV.of1 rfl (RV.tmp rfl))
   ·replace h := if_F h hb
    refine wc_skip ?_
    refine KX.go (hK_17' [(0, zP b), (3, zU (peekB r_0 r_1)), (21, Value.agg [zU 110, zU 10, zU 114, zU 13, zU 116, zU 9].toArray), (22, zI 1)] _ ?_) ⟨rfl, rfl, rfl, rfl, trivial⟩
    refine wc_region ?_
    refine wv (OV.add rfl rfl ⟨by decide, by decide⟩) ?_
    refine wv (OV.move rfl) ?_
    refine WL.nil ?_
    refine KX.go (hK_14' [(0, zP b), (3, zU (peekB r_0 r_1)), (21, Value.agg [zU 110, zU 10, zU 114, zU 13, zU 116, zU 9].toArray), (22, zI 2)] _ ?_) ⟨rfl, rfl, rfl, rfl, trivial⟩
    refine RC.succ (fun K0_22' hK_22' => ?_)
    refine wc_seq (fun K0_23' hK_23' => ?_)
    refine wc_region ?_
    refine wv (OV.lss rfl rfl) ?_
    refine WL.nil ?_
    refine KX.go (hK_23' [(0, zP b), (3, zU (peekB r_0 r_1)), (21, Value.agg [zU 110, zU 10, zU 114, zU 13, zU 116, zU 9].toArray), (22, zI 2), (23, zB true)] _ ?_) ⟨rfl, rfl, rfl, rfl, rfl, trivial⟩
    refine wc_seq (fun K0_24' hK_24' => ?_)
    refine wc_condT rfl ?_
    refine wc_skip ?_
    refine KX.go (hK_24' [(0, zP b), (3, zU (peekB r_0 r_1)), (21, Value.agg [zU 110, zU 10, zU 114, zU 13, zU 116, zU 9].toArray), (22, zI 2)] _ ?_) ⟨rfl, rfl, rfl, rfl, trivial⟩
    refine wc_seq (fun K0_25' hK_25' => ?_)
    refine wc_block ?_
    refine wc_seq (fun K0_26' hK_26' => ?_)
    refine wc_region ?_
    refine wv (OV.indexM (vs := [zU 116, zU 9]) rfl rfl tf_arr_214 (by decide) tf_row_213 rfl) ?_
    refine WL.make (MV.alloc tf_zero_213) rfl rfl rfl (fun b_3' => ?_)
    refine WL.storeW (vs := [zU 116, zU 9]) 0 rfl rfl rfl rfl rfl tf_size_213 rfl rfl rfl ?_
    refine WL.nil ?_
    refine KX.go (hK_26' [(0, zP b), (3, zU (peekB r_0 r_1)), (6, zP b_3'), (21, Value.agg [zU 110, zU 10, zU 114, zU 13, zU 116, zU 9].toArray), (22, zI 2)] _ ?_) ⟨rfl, rfl, rfl, rfl, rfl, trivial⟩
    refine wc_seq (fun K0_27' hK_27' => ?_)
    refine wc_region ?_
    refine wv (OV.fieldAddr0 rfl tf_field_213_0) ?_
    refine wv (OV.load rfl (At.own 0 rfl) rfl tf_scal_5) ?_
    refine wv (OV.move rfl) ?_
    refine wv (OV.eql rfl rfl) ?_
    refine WL.nil ?_
    refine KX.go (hK_27' [(0, zP b), (3, zU (peekB r_0 r_1)), (6, zP b_3'), (21, Value.agg [zU 110, zU 10, zU 114, zU 13, zU 116, zU 9].toArray), (22, zI 2), (28, zB (decide (116 = peekB r_0 r_1)))] _ ?_) ⟨rfl, rfl, rfl, rfl, rfl, rfl, trivial⟩
    refine wc_cond (b := decide (116 = peekB r_0 r_1)) rfl (fun hb => ?_) (fun hb => ?_)
    ·replace h := if_T h hb
     refine wc_seq (fun K0_28' hK_28' => ?_)
     refine wc_region ?_
     refine wv (OV.move rfl) ?_
     refine wv (OV.nilCheck rfl) ?_
     refine wv (OV.fieldAddr0 rfl tf_field_222_1) ?_
     refine wv (OV.load rfl (At.own 3 rfl) rfl tf_scal_3) ?_
     obtain ⟨o_3', h⟩ := h
     refine wv (OV.add rfl rfl o_3') ?_
     refine wv (OV.nilCheck rfl) ?_
     refine wv (OV.fieldAddr0 rfl tf_field_222_1) ?_
     refine WL.store (vs := [zI (r_1 + 1)]) (cs' := [st r_0, zI (r_1 + 1)]) 3 rfl rfl rfl rfl tf_size_3 (Nat.le_of_ble_eq_true rfl) rfl rfl rfl ?_
     refine WL.nil ?_
     refine KX.go (hK_28' [(6, zP b_3')] _ ?_) ⟨rfl, trivial⟩
     refine wc_seq (fun K0_29' hK_29' => ?_)
     refine wc_region ?_
     refine wv (OV.fieldAddr0 rfl tf_field_213_1) ?_
     refine wv (OV.load rfl (At.own 0 rfl) rfl tf_scal_5) ?_
     refine wv (OV.assign rfl) ?_
     refine WL.nil ?_
     refine KX.go (hK_29' [(2, zU 9)] _ ?_) ⟨rfl, trivial⟩
     refine wc_ret ?_
     exact hE.ret [3] rfl rfl (.inl ⟨_, _, _, h, rfl⟩) (ResV.of1 rfl (RV.tmp rfl))
    ·replace h := if_F h hb
     refine wc_skip ?_
     refine KX.go (hK_25' [(0, zP b), (3, zU (peekB r_0 r_1)), (21, Value.agg [zU 110, zU 10, zU 114, zU 13, zU 116, zU 9].toArray), (22, zI 2)] _ ?_) ⟨rfl, rfl, rfl, rfl, trivial⟩
     refine wc_region ?_
     refine wv (OV.add rfl rfl ⟨by decide, by decide⟩) ?_
     refine wv (OV.move rfl) ?_
     refine WL.nil ?_
     refine KX.go (hK_22' [(0, zP b), (3, zU (peekB r_0 r_1)), (21, Value.agg [zU 110, zU 10, zU 114, zU 13, zU 116, zU 9].toArray), (22, zI 3)] _ ?_) ⟨rfl, rfl, rfl, rfl, trivial⟩
     refine RC.succ (fun K0_30' hK_30' => ?_)
     refine wc_seq (fun K0_31' hK_31' => ?_)
     refine wc_region ?_
     refine wv (OV.lss rfl rfl) ?_
     refine WL.nil ?_
     refine KX.go (hK_31' [(0, zP b), (3, zU (peekB r_0 r_1)), (21, Value.agg [zU 110, zU 10, zU 114, zU 13, zU 116, zU 9].toArray), (22, zI 3), (23, zB false)] _ ?_) ⟨rfl, rfl, rfl, rfl, rfl, trivial⟩
     refine wc_seq (fun K0_32' hK_32' => ?_)
     refine wc_condF rfl ?_
     refine wc_exit ?_
     refine KX.go (hK_4' [(0, zP b), (3, zU (peekB r_0 r_1))] _ ?_) ⟨rfl, rfl, trivial⟩
     refine wc_seq (fun K0_33' hK_33' => ?_)
     refine wc_seq (fun K0_34' hK_34' => ?_)
     refine wc_region ?_
     refine wv (OV.move rfl) ?_
     refine wv (OV.eql rfl rfl) ?_
     refine WL.nil ?_
     refine KX.go (hK_34' [(0, zP b), (3, zU (peekB r_0 r_1)), (40, zB (decide (peekB r_0 r_1 = 120)))] _ ?_) ⟨rfl, rfl, rfl, trivial⟩
     refine wc_cond (b := decide (peekB r_0 r_1 = 120)) rfl (fun hb => ?_) (fun hb => ?_)
     ·replace h := if_T h hb
      refine wc_seq (fun K0_35' hK_35' => ?_)
      refine wc_region ?_
      refine wv (OV.move rfl) ?_
      refine wv (OV.nilCheck rfl) ?_
      refine wv (OV.fieldAddr0 rfl tf_field_222_1) ?_
      refine wv (OV.load rfl (At.own 3 rfl) rfl tf_scal_3) ?_
      obtain ⟨o_4', h⟩ := h
      refine wv (OV.add rfl rfl o_4') ?_
      refine wv (OV.nilCheck rfl) ?_
      refine wv (OV.fieldAddr0 rfl tf_field_222_1) ?_
      refine WL.store (vs := [zI (r_1 + 1)]) (cs' := [st r_0, zI (r_1 + 1)]) 3 rfl rfl rfl rfl tf_size_3 (Nat.le_of_ble_eq_true rfl) rfl rfl rfl ?_
      refine WL.nil ?_
      refine KX.go (hK_35' [(0, zP b)] _ ?_) ⟨rfl, trivial⟩
      refine wc_seq (fun K0_36' hK_36' => ?_)
      refine wc_region ?_
      refine wv (OV.move rfl) ?_
      obtain ⟨o_5', h⟩ := h
      refine WL.pick (H' := [HA.blk b (.cells [st r_0, zI (r_1 + 1)].toArray 222 (0, 0)), HA.blk b_3' (.cells [zU 116, zU 9].toArray 213 (0, 0)), HA.blk b_2' (.cells [zU 114, zU 13].toArray 213 (0, 0)), HA.blk b_1' (.cells [zU 110, zU 10].toArray 213 (0, 0))]) [3, 0, 1, 2] rfl rfl ?_
      refine WL.callS tf_ent_182 rfl (hex_does b r_0 (r_1 + 1) o_5') rfl trivial rfl rfl (fun r H' hS => ?_) (fun c H' hS => ?_)
      ·rcases hS with ⟨r_1', at0, hc, ho⟩ | ⟨e, at0_1', hc, ho⟩ <;> cases ho
       replace h := h.1 r_1' at0 hc
       refine wv (OV.assign rfl) ?_
       refine WL.nil ?_
       refine KX.go (hK_36' [(0, zP b), (7, zU r_1')] _ ?_) ⟨rfl, rfl, trivial⟩
       refine wc_seq (fun K0_37' hK_37' => ?_)
       refine wc_region ?_
       refine wv (OV.move rfl) ?_
       refine wv (OV.shl rfl rfl ⟨by decide, by decide⟩) ?_
       refine wv (OV.move rfl) ?_
       obtain ⟨o_6', h⟩ := h
       refine WL.callS tf_ent_182 rfl (hex_does b r_0 at0 o_6') rfl trivial rfl rfl (fun r H' hS => ?_) (fun c H' hS => ?_)
       ·rcases hS with ⟨r_2', at0_2', hc, ho⟩ | ⟨e_1', at0_3', hc, ho⟩ <;> cases ho
        replace h := h.1 r_2' at0_2' hc
        refine wv (OV.bits_or rfl rfl) ?_
        refine wv (OV.assign rfl) ?_
        refine WL.nil ?_
        refine KX.go (hK_37' [(2, zU (bits .or .u8 (IntKind.wrap .u8 (r_1' * 2 ^ (4 : Int).toNat)) r_2'))] _ ?_) ⟨rfl, trivial⟩
        refine wc_ret ?_
        exact hE.ret [0] rfl rfl (.inl ⟨_, _, _, h, rfl⟩) (ResV.of1 rfl (RV.tmp rfl))
       ·rcases hS with ⟨r_2', at0_2', hc, ho⟩ | ⟨e_1', at0_3', hc, ho⟩ <;> cases ho
        replace h := h.2 e_1' at0_3' hc
        exact hE.pan [0] rfl rfl (.inr ⟨_, _, _, h, rfl⟩)
      ·rcases hS with ⟨r_1', at0, hc, ho⟩ | ⟨e, at0_1', hc, ho⟩ <;> cases ho
       replace h := h.2 e at0_1' hc
       exact hE.pan [0] rfl rfl (.inr ⟨_, _, _, h, rfl⟩)
     ·replace h := if_F h hb
      refine wc_skip ?_
      refine KX.go (hK_33' [(0, zP b), (3, zU (peekB r_0 r_1))] _ ?_) ⟨rfl, rfl, trivial⟩
      refine wc_seq (fun K0_38' hK_38' => ?_)
      refine wc_seq (fun K0_39' hK_39' => ?_)
      refine wc_region ?_
      refine wv (OV.move rfl) ?_
      refine wv (OV.lss rfl rfl) ?_
      refine wv (OV.move rfl) ?_
      refine WL.cut 3 [(0, zP b), (3, zU (peekB r_0 r_1)), (60, zB ((decide (peekB r_0 r_1 < 32)) || (decide (126 < peekB r_0 r_1))))] ?_ (fun K0_40' hK_40' => ?_)
      rotate_left
      ·refine WL.split (decide (peekB r_0 r_1 < 32)) (fun hb => ?_) (fun hb => ?_)
       ·refine WL.set 57 rfl (congrArg zB hb) ?_
        refine WL.skip rfl rfl rfl ?_
        refine WL.skip rfl rfl rfl ?_
        refine wv (OV.pickT rfl rfl) ?_
        refine WL.set 60 rfl (oT (v := decide (126 < peekB r_0 r_1)) hb) ?_
        exact WL.end_ (KX.go hK_40' ⟨rfl, rfl, rfl, trivial⟩)
       ·refine WL.set 57 rfl (congrArg zB hb) ?_
        refine wv (OV.move rfl) ?_
        refine wv (OV.gtr rfl rfl) ?_
        refine wv (OV.pickF rfl rfl) ?_
        refine WL.set 60 rfl (oF (v := decide (126 < peekB r_0 r_1)) hb) ?_
        exact WL.end_ (KX.go hK_40' ⟨rfl, rfl, rfl, trivial⟩)
      refine wv (OV.move rfl) ?_
      refine WL.cut 7 [(0, zP b), (3, zU (peekB r_0 r_1)), (68, zB (((decide (peekB r_0 r_1 < 32)) || (decide (126 < peekB r_0 r_1))) || ((decide (48 ≤ peekB r_0 r_1)) && (decide (peekB r_0 r_1 ≤ 57)))))] ?_ (fun K0_42' hK_42' => ?_)
      rotate_left
      ·refine WL.split ((decide (peekB r_0 r_1 < 32)) || (decide (126 < peekB r_0 r_1))) (fun hb => ?_) (fun hb => ?_)
       ·refine WL.set 61 rfl (congrArg zB hb) ?_
        refine WL.skip rfl rfl rfl ?_
        refine WL.skip rfl rfl rfl ?_
        refine WL.skip rfl rfl rfl ?_
        refine WL.skip rfl rfl rfl ?_
        refine WL.skip rfl rfl rfl ?_
        refine WL.skip rfl rfl rfl ?_
        refine wv (OV.pickT rfl rfl) ?_
        refine WL.set 68 rfl (oT (v := (decide (48 ≤ peekB r_0 r_1)) && (decide (peekB r_0 r_1 ≤ 57))) hb) ?_
        exact WL.end_ (KX.go hK_42' ⟨rfl, rfl, rfl, trivial⟩)
       ·refine WL.set 61 rfl (congrArg zB hb) ?_
        refine wv (OV.move rfl) ?_
        refine wv (OV.geq rfl rfl) ?_
        refine wv (OV.move rfl) ?_
        refine WL.cut 3 [(0, zP b), (3, zU (peekB r_0 r_1)), (61, zB false), (67, zB ((decide (48 ≤ peekB r_0 r_1)) && (decide (peekB r_0 r_1 ≤ 57))))] ?_ (fun K0_41' hK_41' => ?_)
        rotate_left
        ·refine WL.split (decide (48 ≤ peekB r_0 r_1)) (fun hb => ?_) (fun hb => ?_)
         ·refine WL.set 64 rfl (congrArg zB hb) ?_
          refine wv (OV.move rfl) ?_
          refine wv (OV.leq rfl rfl) ?_
          refine wv (OV.pickT rfl rfl) ?_
          refine WL.set 67 rfl (bT (v := decide (peekB r_0 r_1 ≤ 57)) hb) ?_
          exact WL.end_ (KX.go hK_41' ⟨rfl, rfl, rfl, rfl, trivial⟩)
         ·refine WL.set 64 rfl (congrArg zB hb) ?_
          refine WL.skip rfl rfl rfl ?_
          refine WL.skip rfl rfl rfl ?_
          refine wv (OV.pickF rfl rfl) ?_
          refine WL.set 67 rfl (bF (v := decide (peekB r_0 r_1 ≤ 57)) hb) ?_
          exact WL.end_ (KX.go hK_41' ⟨rfl, rfl, rfl, rfl, trivial⟩)
        refine wv (OV.pickF rfl rfl) ?_
        refine WL.set 68 rfl (oF (v := (decide (48 ≤ peekB r_0 r_1)) && (decide (peekB r_0 r_1 ≤ 57))) hb) ?_
        exact WL.end_ (KX.go hK_42' ⟨rfl, rfl, rfl, trivial⟩)
      refine wv (OV.move rfl) ?_
      refine WL.cut 7 [(0, zP b), (3, zU (peekB r_0 r_1)), (76, zB ((((decide (peekB r_0 r_1 < 32)) || (decide (126 < peekB r_0 r_1))) || ((decide (48 ≤ peekB r_0 r_1)) && (decide (peekB r_0 r_1 ≤ 57)))) || ((decide (97 ≤ peekB r_0 r_1)) && (decide (peekB r_0 r_1 ≤ 122)))))] ?_ (fun K0_44' hK_44' => ?_)
      rotate_left
      ·refine WL.split (((decide (peekB r_0 r_1 < 32)) || (decide (126 < peekB r_0 r_1))) || ((decide (48 ≤ peekB r_0 r_1)) && (decide (peekB r_0 r_1 ≤ 57)))) (fun hb => ?_) (fun hb => ?_)
       ·refine WL.set 69 rfl (congrArg zB hb) ?_
        refine WL.skip rfl rfl rfl ?_
        refine WL.skip rfl rfl rfl ?_
        refine WL.skip rfl rfl rfl ?_
        refine WL.skip rfl rfl rfl ?_
        refine WL.skip rfl rfl rfl ?_
        refine WL.skip rfl rfl rfl ?_
        refine wv (OV.pickT rfl rfl) ?_
        refine WL.set 76 rfl (oT (v := (decide (97 ≤ peekB r_0 r_1)) && (decide (peekB r_0 r_1 ≤ 122))) hb) ?_
        exact WL.end_ (KX.go hK_44' ⟨rfl, rfl, rfl, trivial⟩)
       ·refine WL.set 69 rfl (congrArg zB hb) ?_
        refine wv (OV.move rfl) ?_
        refine wv (OV.geq rfl rfl) ?_
        refine wv (OV.move rfl) ?_
        refine WL.cut 3 [(0, zP b), (3, zU (peekB r_0 r_1)), (69, zB false), (75, zB ((decide (97 ≤ peekB r_0 r_1)) && (decide (peekB r_0 r_1 ≤ 122))))] ?_ (fun K0_43' hK_43' => ?_)
        rotate_left
        ·refine WL.split (decide (97 ≤ peekB r_0 r_1)) (fun hb => ?_) (fun hb => ?_)
         ·refine WL.set 72 rfl (congrArg zB hb) ?_
          refine wv (OV.move rfl) ?_
          refine wv (OV.leq rfl rfl) ?_
          refine wv (OV.pickT rfl rfl) ?_
          refine WL.set 75 rfl (bT (v := decide (peekB r_0 r_1 ≤ 122)) hb) ?_
          exact WL.end_ (KX.go hK_43' ⟨rfl, rfl, rfl, rfl, trivial⟩)
         ·refine WL.set 72 rfl (congrArg zB hb) ?_
          refine WL.skip rfl rfl rfl ?_
          refine WL.skip rfl rfl rfl ?_
          refine wv (OV.pickF rfl rfl) ?_
          refine WL.set 75 rfl (bF (v := decide (peekB r_0 r_1 ≤ 122)) hb) ?_
          exact WL.end_ (KX.go hK_43' ⟨rfl, rfl, rfl, rfl, trivial⟩)
        refine wv (OV.pickF rfl rfl) ?_
        refine WL.set 76 rfl (oF (v := (decide (97 ≤ peekB r_0 r_1)) && (decide (peekB r_0 r_1 ≤ 122))) hb) ?_
        exact WL.end_ (KX.go hK_44' ⟨rfl, rfl, rfl, trivial⟩)
      refine wv (OV.move rfl) ?_
      refine WL.cut 7 [(0, zP b), (3, zU (peekB r_0 r_1)), (84, zB (((((decide (peekB r_0 r_1 < 32)) || (decide (126 < peekB r_0 r_1))) || ((decide (48 ≤ peekB r_0 r_1)) && (decide (peekB r_0 r_1 ≤ 57)))) || ((decide (97 ≤ peekB r_0 r_1)) && (decide (peekB r_0 r_1 ≤ 122)))) || ((decide (65 ≤ peekB r_0 r_1)) && (decide (peekB r_0 r_1 ≤ 90)))))] ?_ (fun K0_46' hK_46' => ?_)
      rotate_left
      ·refine WL.split ((((decide (peekB r_0 r_1 < 32)) || (decide (126 < peekB r_0 r_1))) || ((decide (48 ≤ peekB r_0 r_1)) && (decide (peekB r_0 r_1 ≤ 57)))) || ((decide (97 ≤ peekB r_0 r_1)) && (decide (peekB r_0 r_1 ≤ 122)))) (fun hb => ?_) (fun hb => ?_)
       ·refine WL.set 77 rfl (congrArg zB hb) ?_
        refine WL.skip rfl rfl rfl ?_
        refine WL.skip rfl rfl rfl ?_
        refine WL.skip rfl rfl rfl ?_
        refine WL.skip rfl rfl rfl ?_
        refine WL.skip rfl rfl rfl ?_
        refine WL.skip rfl rfl rfl ?_
        refine wv (OV.pickT rfl rfl) ?_
        refine WL.set 84 rfl (oT (v := (decide (65 ≤ peekB r_0 r_1)) && (decide (peekB r_0 r_1 ≤ 90))) hb) ?_
        exact WL.end_ (KX.go hK_46' ⟨rfl, rfl, rfl, trivial⟩)
       ·refine WL.set 77 rfl (congrArg zB hb) ?_
        refine wv (OV.move rfl) ?_
        refine wv (OV.geq rfl rfl) ?_
        refine wv (OV.move rfl) ?_
        refine WL.cut 3 [(0, zP b), (3, zU (peekB r_0 r_1)), (77, zB false), (83, zB ((decide (65 ≤ peekB r_0 r_1)) && (decide (peekB r_0 r_1 ≤ 90))))] ?_ (fun K0_45' hK_45' => ?_)
        rotate_left
        ·refine WL.split (decide (65 ≤ peekB r_0 r_1)) (fun hb => ?_) (fun hb => ?_)
         ·refine WL.set 80 rfl (congrArg zB hb) ?_
          refine wv (OV.move rfl) ?_
          refine wv (OV.leq rfl rfl) ?_
          refine wv (OV.pickT rfl rfl) ?_
          refine WL.set 83 rfl (bT (v := decide (peekB r_0 r_1 ≤ 90)) hb) ?_
          exact WL.end_ (KX.go hK_45' ⟨rfl, rfl, rfl, rfl, trivial⟩)
         ·refine WL.set 80 rfl (congrArg zB hb) ?_
          refine WL.skip rfl rfl rfl ?_
          refine WL.skip rfl rfl rfl ?_
          refine wv (OV.pickF rfl rfl) ?_
          refine WL.set 83 rfl (bF (v := decide (peekB r_0 r_1 ≤ 90)) hb) ?_
          exact WL.end_ (KX.go hK_45' ⟨rfl, rfl, rfl, rfl, trivial⟩)
        refine wv (OV.pickF rfl rfl) ?_
        refine WL.set 84 rfl (oF (v := (decide (65 ≤ peekB r_0 r_1)) && (decide (peekB r_0 r_1 ≤ 90))) hb) ?_
        exact WL.end_ (KX.go hK_46' ⟨rfl, rfl, rfl, trivial⟩)
      refine WL.nil ?_
      refine KX.go (hK_39' [(0, zP b), (3, zU (peekB r_0 r_1)), (84, zB (((((decide (peekB r_0 r_1 < 32)) || (decide (126 < peekB r_0 r_1))) || ((decide (48 ≤ peekB r_0 r_1)) && (decide (peekB r_0 r_1 ≤ 57)))) || ((decide (97 ≤ peekB r_0 r_1)) && (decide (peekB r_0 r_1 ≤ 122)))) || ((decide (65 ≤ peekB r_0 r_1)) && (decide (peekB r_0 r_1 ≤ 90)))))] _ ?_) ⟨rfl, rfl, rfl, trivial⟩
      refine wc_cond (b := ((((decide (peekB r_0 r_1 < 32)) || (decide (126 < peekB r_0 r_1))) || ((decide (48 ≤ peekB r_0 r_1)) && (decide (peekB r_0 r_1 ≤ 57)))) || ((decide (97 ≤ peekB r_0 r_1)) && (decide (peekB r_0 r_1 ≤ 122)))) || ((decide (65 ≤ peekB r_0 r_1)) && (decide (peekB r_0 r_1 ≤ 90)))) rfl (fun hb => ?_) (fun hb => ?_)
      ·replace h := if_T h hb
       refine wc_region ?_
       refine wv (OV.move rfl) ?_
       refine wv (OV.move rfl) ?_
       refine wv (OV.nilCheck rfl) ?_
       refine wv (OV.fieldAddr0 rfl tf_field_222_1) ?_
       refine wv (OV.load rfl (At.own 3 rfl) rfl tf_scal_3) ?_
       refine WL.callS tf_ent_179 rfl (fail_does b r_1) rfl trivial rfl rfl (fun r H' hS => by cases hS) (fun c H' hS => ?_)
       cases hS
       exact hE.pan [3] rfl rfl (.inr ⟨_, _, _, h, rfl⟩)
      ·replace h := if_F h hb
       refine wc_skip ?_
       refine KX.go (hK_38' [(0, zP b), (3, zU (peekB r_0 r_1))] _ ?_) ⟨rfl, rfl, trivial⟩
       refine wc_seq (fun K0_47' hK_47' => ?_)
       refine wc_region ?_
       refine wv (OV.move rfl) ?_
       refine wv (OV.nilCheck rfl) ?_
       refine wv (OV.fieldAddr0 rfl tf_field_222_1) ?_
       refine wv (OV.load rfl (At.own 3 rfl) rfl tf_scal_3) ?_
       obtain ⟨o_14', h⟩ := h
       refine wv (OV.add rfl rfl o_14') ?_
       refine wv (OV.nilCheck rfl) ?_
       refine wv (OV.fieldAddr0 rfl tf_field_222_1) ?_
       refine WL.store (vs := [zI (r_1 + 1)]) (cs' := [st r_0, zI (r_1 + 1)]) 3 rfl rfl rfl rfl tf_size_3 (Nat.le_of_ble_eq_true rfl) rfl rfl rfl ?_
       refine WL.nil ?_
       refine KX.go (hK_47' [(3, zU (peekB r_0 r_1))] _ ?_) ⟨rfl, trivial⟩
       refine wc_seq (fun K0_48' hK_48' => ?_)
       refine wc_region ?_
       refine wv (OV.move rfl) ?_
       refine wv (OV.assign rfl) ?_
       refine WL.nil ?_
       refine KX.go (hK_48' [(2, zU (peekB r_0 r_1))] _ ?_) ⟨rfl, trivial⟩
       refine wc_ret ?_
       exact hE.ret [3] rfl rfl (.inl ⟨_, _, _, h, rfl⟩) (ResV.of1 rfl (RV.tmp rfl))

theorem or16 (hi lo : Int) (h1 : 0 ≤ hi ∧ hi ≤ 15) (h2 : 0 ≤ lo ∧ lo ≤ 15) : bits .or .u8 (IntKind.wrap .u8 (hi * 2 ^ (4 : Int).toNat)) lo = 16 * hi + lo := by
 obtain ⟨a, ha, rfl⟩ : ∃ a : Nat, a < 16 ∧ hi = (a : Int) := ⟨hi.toNat, by omega, by omega⟩
 obtain ⟨b, hb, rfl⟩ : ∃ b : Nat, b < 16 ∧ lo = (b : Int) := ⟨lo.toNat, by omega, by omega⟩
 clear h1 h2
 revert a b; decide
theorem hexM_ok {t : List UInt8} {a r q : Int} (h : hexM t a = .ok (r, q)) : a < t.length ∧ 0 ≤ r ∧ r ≤ 15 ∧ q = a + 1 := by
 unfold hexM at h
 split at h
 ·rename_i h1
  cases h
  exact ⟨h1.1, h1.2, refHex_bd.2, rfl⟩
 ·cases h
abbrev escTab (te : TypeId) (fre : Nat × Nat) : List (Nat × Obj) := [(1, .cells [zU 110, zU 10, zU 114, zU 13, zU 116, zU 9].toArray te fre)]
theorem escape_does (b : Nat) (te : TypeId) (fre : Nat × Nat) (t : List UInt8) (a : Int) (h : 0 ≤ a ∧ a ≤ t.length ∧ t.length ≤ 9223372036854775807) : Does Tryd.prog 181 [.pointer (some ⟨b, 0, none⟩)] (escTab te fre) [rdBlk b t a] (RdOut b t (fun r => .int .u8 r) (escM t a)) := by
 refine (escape_wp b te fre t a (fun r t' q => t' = t ∧ escM t a = .ok (r, q)) (fun v t' _ => t' = t ∧ ∃ e, escM t a = .error e ∧ v = faultV 10 e) ?_).weak ?_
 ·have hb := peekB_bd t a
  unfold escape_vc escM peekOk
  refine ⟨h.1, ?_⟩
  by_cases h1 : a < t.length
  ·rw [if_neg (by simp [h1]), if_pos h1]
   have hI : I64 (a + 1) := ⟨by omega, by omega⟩
   generalize peekB t a = c at hb ⊢
   by_cases e1 : c = 110
   ·subst e1; simp [hI]
   ·by_cases e2 : c = 114
    ·subst e2; simp [hI]
    ·by_cases e3 : c = 116
     ·subst e3; simp [hI]
     ·rw [if_neg (by simpa using fun e => e1 e.symm), if_neg (by simpa using fun e => e2 e.symm), if_neg (by simpa using fun e => e3 e.symm), if_neg e1, if_neg e2, if_neg e3]
      by_cases e4 : c = 120
      ·rw [if_pos (by simpa using e4), if_pos e4]
       refine ⟨hI, ⟨by omega, by omega, h.2.2⟩, fun hi p hp => ⟨?_, fun lo q hq => ?_, fun e q he => ?_⟩, fun e q he => ?_⟩
       ·have := hexM_ok hp; exact ⟨by omega, by omega, h.2.2⟩
       ·simp only [hp, hq]
        have h3 := hexM_ok hp
        have h4 := hexM_ok hq
        rw [or16 hi lo ⟨h3.2.1, h3.2.2.1⟩ ⟨h4.2.1, h4.2.2.1⟩]
        simp
       ·simp only [hp]; simp [he]
       ·simp [he]
      ·rw [if_neg (by simpa using e4), if_neg e4]
       by_cases e5 : c < 32 ∨ 126 < c ∨ (48 ≤ c ∧ c ≤ 57) ∨ (97 ≤ c ∧ c ≤ 122) ∨ (65 ≤ c ∧ c ≤ 90)
       ·rw [if_pos (by simp; omega), if_pos e5]; exact ⟨rfl, _, rfl, rfl⟩
       ·rw [if_neg (by simp; omega), if_neg e5]; exact ⟨hI, rfl, rfl⟩
  ·rw [if_pos (by simp [h1]), if_neg h1]; exact ⟨rfl, _, rfl, rfl⟩
 ·rintro o (⟨r, t', q, ⟨rfl, hm⟩, rfl⟩ | ⟨v, t', q, ⟨rfl, e, hm, rfl⟩, rfl⟩)
  ·exact .inl ⟨r, q, hm, rfl⟩
  ·exact .inr ⟨e, q, hm, rfl⟩

def one_vc (r_0 : List UInt8) (r_1 : Int) (barred : List UInt8) (K : Int → (List UInt8) → Int → Prop) (KP : Value → (List UInt8) → Int → Prop) : Prop :=
 (0 ≤ r_1) ∧
 (if ((peekOk r_0 r_1) && (decide (peekB r_0 r_1 = 92))) = true then
  (I64 (r_1 + 1)) ∧
  (0 ≤ r_1 + 1 ∧ r_1 + 1 ≤ r_0.length ∧ r_0.length ≤ 9223372036854775807) ∧
  (∀ (r_1' : Int) (at0 : Int), escM r_0 (r_1 + 1) = .ok (r_1', at0) →
   K r_1' r_0 at0) ∧
  (∀ (e : Int) (at0_1' : Int), escM r_0 (r_1 + 1) = .error e →
   KP (faultV 10 e) r_0 at0_1')
 else
  (if ((((!(peekOk r_0 r_1)) || (decide (peekB r_0 r_1 < 32))) || (decide (126 < peekB r_0 r_1))) || (decide (0 ≤ Lib.indexByte barred (peekB r_0 r_1).toNat.toUInt8))) = true then
   KP (faultV 10 r_1) r_0 r_1
  else
   (I64 (r_1 + 1)) ∧
   K (peekB r_0 r_1) r_0 (r_1 + 1)))
set_option maxRecDepth 100000 in
theorem one_wp (b : Nat) (te : TypeId) (fre : Nat × Nat) (r_0 : List UInt8) (r_1 : Int) (barred : List UInt8) (K : Int → (List UInt8) → Int → Prop) (KP : Value → (List UInt8) → Int → Prop) (h : one_vc r_0 r_1 barred K KP) :
  Does Tryd.prog 175 [zP b, st barred] [(1, .cells [zU 110, zU 10, zU 114, zU 13, zU 116, zU 9].toArray te fre)] [HA.blk b (.cells [st r_0, zI r_1].toArray 222 (0, 0))] (fun o => (∃ (v : Int) (d_0 : List UInt8) (d_1 : Int), K v d_0 d_1 ∧ o = .ret (zU v) [HA.blk b (.cells [st d_0, zI d_1].toArray 222 (0, 0))]) ∨ (∃ (pv : Value) (d_0 : List UInt8) (d_1 : Int), KP pv d_0 d_1 ∧ o = .pan [{ v := pv, recovered := false }] [HA.blk b (.cells [st d_0, zI d_1].toArray 222 (0, 0))])) := by
 unfold one_vc at h
 refine does_of_wc (n := 56) (L0 := [(0, zP b), (1, st barred)]) Tryd.func175 rfl rfl rfl rfl (fun w0 M Q hE => ?_)
 refine wc_seq (fun K0 hK => ?_)
 refine wc_region ?_
 refine wv (OV.assign rfl) ?_
 refine WL.nil ?_
 refine KX.go (hK [(0, zP b), (1, st barred)] _ ?_) ⟨rfl, rfl, trivial⟩
 refine wc_seq (fun K0_1' hK_1' => ?_)
 refine wc_region ?_
 refine wv (OV.move rfl) ?_
 obtain ⟨o, h⟩ := h
 refine WL.call (A := []) tf_ent_178 rfl (peek_does b r_0 r_1 o) rfl ⟨.inl ⟨0, rfl⟩, trivial⟩ rfl rfl ?_
 refine wv (OV.move rfl) ?_
 refine wv (OV.extract 0 rfl rfl) ?_
 refine wv (OV.extract 1 rfl rfl) ?_
 refine wv (OV.assign rfl) ?_
 refine wv (OV.assign rfl) ?_
 refine WL.nil ?_
 refine KX.go (hK_1' [(0, zP b), (1, st barred), (5, zU (peekB r_0 r_1)), (6, zB (peekOk r_0 r_1))] _ ?_) ⟨rfl, rfl, rfl, rfl, trivial⟩
 refine wc_seq (fun K0_2' hK_2' => ?_)
 refine wc_seq (fun K0_3' hK_3' => ?_)
 refine wc_region ?_
 refine wv (OV.move rfl) ?_
 refine wv (OV.move rfl) ?_
 refine WL.cut 3 [(0, zP b), (1, st barred), (5, zU (peekB r_0 r_1)), (6, zB (peekOk r_0 r_1)), (16, zB ((peekOk r_0 r_1) && (decide (peekB r_0 r_1 = 92))))] ?_ (fun K0_4' hK_4' => ?_)
 rotate_left
 ·refine WL.split (peekOk r_0 r_1) (fun hb => ?_) (fun hb => ?_)
  ·refine WL.set 13 rfl (congrArg zB hb) ?_
   refine wv (OV.move rfl) ?_
   refine wv (OV.eql rfl rfl) ?_
   refine wv (OV.pickT rfl rfl) ?_
   refine WL.set 16 rfl (bT (v := decide (peekB r_0 r_1 = 92)) hb) ?_
   exact WL.end_ (KX.go hK_4' ⟨rfl, rfl, rfl, rfl, rfl, trivial⟩)
  ·refine WL.set 13 rfl (congrArg zB hb) ?_
   refine WL.skip rfl rfl rfl ?_
   refine WL.skip rfl rfl rfl ?_
   refine wv (OV.pickF rfl rfl) ?_
   refine WL.set 16 rfl (bF (v := decide (peekB r_0 r_1 = 92)) hb) ?_
   exact WL.end_ (KX.go hK_4' ⟨rfl, rfl, rfl, rfl, rfl, trivial⟩)
 refine WL.nil ?_
 refine KX.go (hK_3' [(0, zP b), (1, st barred), (5, zU (peekB r_0 r_1)), (6, zB (peekOk r_0 r_1)), (16, zB ((peekOk r_0 r_1) && (decide (peekB r_0 r_1 = 92))))] _ ?_) ⟨rfl, rfl, rfl, rfl, rfl, trivial⟩
 refine wc_cond (b := (peekOk r_0 r_1) && (decide (peekB r_0 r_1 = 92))) rfl (fun hb => ?_) (fun hb => ?_)
 ·replace h := if_T h hb
  refine wc_seq (fun K0_5' hK_5' => ?_)
  refine wc_region ?_
  refine wv (OV.move rfl) ?_
  refine wv (OV.nilCheck rfl) ?_
  refine wv (OV.fieldAddr0 rfl tf_field_222_1) ?_
  refine wv (OV.load rfl (At.own 0 rfl) rfl tf_scal_3) ?_
  obtain ⟨o_2', h⟩ := h
  refine wv (OV.add rfl rfl o_2') ?_
  refine wv (OV.nilCheck rfl) ?_
  refine wv (OV.fieldAddr0 rfl tf_field_222_1) ?_
  refine WL.store (vs := [zI (r_1 + 1)]) (cs' := [st r_0, zI (r_1 + 1)]) 0 rfl rfl rfl rfl tf_size_3 (Nat.le_of_ble_eq_true rfl) rfl rfl rfl ?_
  refine WL.nil ?_
  refine KX.go (hK_5' [(0, zP b)] _ ?_) ⟨rfl, trivial⟩
  refine wc_seq (fun K0_6' hK_6' => ?_)
  refine wc_region ?_
  refine wv (OV.move rfl) ?_
  obtain ⟨o_3', h⟩ := h
  refine WL.callS tf_ent_181 rfl (escape_does b te fre r_0 (r_1 + 1) o_3') rfl ⟨.inr (List.mem_of_getElem? (i := 0) rfl), trivial⟩ rfl rfl (fun r H' hS => ?_) (fun c H' hS => ?_)
  ·rcases hS with ⟨r_1', at0, hc, ho⟩ | ⟨e, at0_1', hc, ho⟩ <;> cases ho
   replace h := h.1 r_1' at0 hc
   refine wv (OV.assign rfl) ?_
   refine WL.nil ?_
   refine KX.go (hK_6' [(4, zU r_1')] _ ?_) ⟨rfl, trivial⟩
   refine wc_ret ?_
   exact hE.ret [0] rfl rfl (.inl ⟨_, _, _, h, rfl⟩) (ResV.of1 rfl (RV.tmp rfl))
  ·rcases hS with ⟨r_1', at0, hc, ho⟩ | ⟨e, at0_1', hc, ho⟩ <;> cases ho
   replace h := h.2 e at0_1' hc
   exact hE.pan [0] rfl rfl (.inr ⟨_, _, _, h, rfl⟩)
 ·replace h := if_F h hb
  refine wc_skip ?_
  refine KX.go (hK_2' [(0, zP b), (1, st barred), (5, zU (peekB r_0 r_1)), (6, zB (peekOk r_0 r_1))] _ ?_) ⟨rfl, rfl, rfl, rfl, trivial⟩
  refine wc_seq (fun K0_7' hK_7' => ?_)
  refine wc_seq (fun K0_8' hK_8' => ?_)
  refine wc_region ?_
  refine wv (OV.move rfl) ?_
  refine wv (OV.not rfl) ?_
  refine wv (OV.move rfl) ?_
  refine WL.cut 3 [(0, zP b), (1, st barred), (5, zU (peekB r_0 r_1)), (31, zB ((!(peekOk r_0 r_1)) || (decide (peekB r_0 r_1 < 32))))] ?_ (fun K0_9' hK_9' => ?_)
  rotate_left
  ·refine WL.split (!(peekOk r_0 r_1)) (fun hb => ?_) (fun hb => ?_)
   ·refine WL.set 28 rfl (congrArg zB hb) ?_
    refine WL.skip rfl rfl rfl ?_
    refine WL.skip rfl rfl rfl ?_
    refine wv (OV.pickT rfl rfl) ?_
    refine WL.set 31 rfl (oT (v := decide (peekB r_0 r_1 < 32)) hb) ?_
    exact WL.end_ (KX.go hK_9' ⟨rfl, rfl, rfl, rfl, trivial⟩)
   ·refine WL.set 28 rfl (congrArg zB hb) ?_
    refine wv (OV.move rfl) ?_
    refine wv (OV.lss rfl rfl) ?_
    refine wv (OV.pickF rfl rfl) ?_
    refine WL.set 31 rfl (oF (v := decide (peekB r_0 r_1 < 32)) hb) ?_
    exact WL.end_ (KX.go hK_9' ⟨rfl, rfl, rfl, rfl, trivial⟩)
  refine wv (OV.move rfl) ?_
  refine WL.cut 3 [(0, zP b), (1, st barred), (5, zU (peekB r_0 r_1)), (35, zB (((!(peekOk r_0 r_1)) || (decide (peekB r_0 r_1 < 32))) || (decide (126 < peekB r_0 r_1))))] ?_ (fun K0_10' hK_10' => ?_)
  rotate_left
  ·refine WL.split ((!(peekOk r_0 r_1)) || (decide (peekB r_0 r_1 < 32))) (fun hb => ?_) (fun hb => ?_)
   ·refine WL.set 32 rfl (congrArg zB hb) ?_
    refine WL.skip rfl rfl rfl ?_
    refine WL.skip rfl rfl rfl ?_
    refine wv (OV.pickT rfl rfl) ?_
    refine WL.set 35 rfl (oT (v := decide (126 < peekB r_0 r_1)) hb) ?_
    exact WL.end_ (KX.go hK_10' ⟨rfl, rfl, rfl, rfl, trivial⟩)
   ·refine WL.set 32 rfl (congrArg zB hb) ?_
    refine wv (OV.move rfl) ?_
    refine wv (OV.gtr rfl rfl) ?_
    refine wv (OV.pickF rfl rfl) ?_
    refine WL.set 35 rfl (oF (v := decide (126 < peekB r_0 r_1)) hb) ?_
    exact WL.end_ (KX.go hK_10' ⟨rfl, rfl, rfl, rfl, trivial⟩)
  refine wv (OV.move rfl) ?_
  refine WL.cut 5 [(0, zP b), (5, zU (peekB r_0 r_1)), (41, zB ((((!(peekOk r_0 r_1)) || (decide (peekB r_0 r_1 < 32))) || (decide (126 < peekB r_0 r_1))) || (decide (0 ≤ Lib.indexByte barred (peekB r_0 r_1).toNat.toUInt8))))] ?_ (fun K0_11' hK_11' => ?_)
  rotate_left
  ·refine WL.split (((!(peekOk r_0 r_1)) || (decide (peekB r_0 r_1 < 32))) || (decide (126 < peekB r_0 r_1))) (fun hb => ?_) (fun hb => ?_)
   ·refine WL.set 36 rfl (congrArg zB hb) ?_
    refine WL.skip rfl rfl rfl ?_
    refine WL.skip rfl rfl rfl ?_
    refine WL.skip rfl rfl rfl ?_
    refine WL.skip rfl rfl rfl ?_
    refine wv (OV.pickT rfl rfl) ?_
    refine WL.set 41 rfl (oT (v := decide (0 ≤ Lib.indexByte barred (peekB r_0 r_1).toNat.toUInt8)) hb) ?_
    exact WL.end_ (KX.go hK_11' ⟨rfl, rfl, rfl, trivial⟩)
   ·refine WL.set 36 rfl (congrArg zB hb) ?_
    refine wv (OV.move rfl) ?_
    refine wv (OV.move rfl) ?_
    refine WL.call (A := []) tf_ent_135 rfl (indexByte_does barred (peekB r_0 r_1)) rfl trivial rfl rfl ?_
    refine wv (OV.geq rfl rfl) ?_
    refine wv (OV.pickF rfl rfl) ?_
    refine WL.set 41 rfl (oF (v := decide (0 ≤ Lib.indexByte barred (peekB r_0 r_1).toNat.toUInt8)) hb) ?_
    exact WL.end_ (KX.go hK_11' ⟨rfl, rfl, rfl, trivial⟩)
  refine WL.nil ?_
  refine KX.go (hK_8' [(0, zP b), (5, zU (peekB r_0 r_1)), (41, zB ((((!(peekOk r_0 r_1)) || (decide (peekB r_0 r_1 < 32))) || (decide (126 < peekB r_0 r_1))) || (decide (0 ≤ Lib.indexByte barred (peekB r_0 r_1).toNat.toUInt8))))] _ ?_) ⟨rfl, rfl, rfl, trivial⟩
  refine wc_cond (b := (((!(peekOk r_0 r_1)) || (decide (peekB r_0 r_1 < 32))) || (decide (126 < peekB r_0 r_1))) || (decide (0 ≤ Lib.indexByte barred (peekB r_0 r_1).toNat.toUInt8))) rfl (fun hb => ?_) (fun hb => ?_)
  ·replace h := if_T h hb
   refine wc_region ?_
   refine wv (OV.move rfl) ?_
   refine wv (OV.move rfl) ?_
   refine wv (OV.nilCheck rfl) ?_
   refine wv (OV.fieldAddr0 rfl tf_field_222_1) ?_
   refine wv (OV.load rfl (At.own 0 rfl) rfl tf_scal_3) ?_
   refine WL.callS tf_ent_179 rfl (fail_does b r_1) rfl trivial rfl rfl (fun r H' hS => by cases hS) (fun c H' hS => ?_)
   cases hS
   exact hE.pan [0] rfl rfl (.inr ⟨_, _, _, h, rfl⟩)
  ·replace h := if_F h hb
   refine wc_skip ?_
   refine KX.go (hK_7' [(0, zP b), (5, zU (peekB r_0 r_1))] _ ?_) ⟨rfl, rfl, trivial⟩
   refine wc_seq (fun K0_12' hK_12' => ?_)
   refine wc_region ?_
   refine wv (OV.move rfl) ?_
   refine wv (OV.nilCheck rfl) ?_
   refine wv (OV.fieldAddr0 rfl tf_field_222_1) ?_
   refine wv (OV.load rfl (At.own 0 rfl) rfl tf_scal_3) ?_
   obtain ⟨o_7', h⟩ := h
   refine wv (OV.add rfl rfl o_7') ?_
   refine wv (OV.nilCheck rfl) ?_
   refine wv (OV.fieldAddr0 rfl tf_field_222_1) ?_
   refine WL.store (vs := [zI (r_1 + 1)]) (cs' := [st r_0, zI (r_1 + 1)]) 0 rfl rfl rfl rfl tf_size_3 (Nat.le_of_ble_eq_true rfl) rfl rfl rfl ?_
   refine WL.nil ?_
   refine KX.go (hK_12' [(5, zU (peekB r_0 r_1))] _ ?_) ⟨rfl, trivial⟩
   refine wc_seq (fun K0_13' hK_13' => ?_)
   refine wc_region ?_
   refine wv (OV.move rfl) ?_
   refine wv (OV.assign rfl) ?_
   refine WL.nil ?_
   refine KX.go (hK_13' [(4, zU (peekB r_0 r_1))] _ ?_) ⟨rfl, trivial⟩
   refine wc_ret ?_
   exact hE.ret [0] rfl rfl (.inl ⟨_, _, _, h, rfl⟩) (ResV.of1 rfl (RV.tmp rfl))

theorem idx_bar (bar : List UInt8) (c : Int) : (0 ≤ Lib.indexByte bar c.toNat.toUInt8) ↔ bar.contains c.toNat.toUInt8 = true := indexByte_nonneg _ _
theorem one_does (b : Nat) (te : TypeId) (fre : Nat × Nat) (t : List UInt8) (a : Int) (bar : List UInt8) (h : 0 ≤ a ∧ a ≤ t.length ∧ t.length ≤ 9223372036854775807) : Does Tryd.prog 175 [.pointer (some ⟨b, 0, none⟩), st bar] (escTab te fre) [rdBlk b t a] (RdOut b t (fun r => .int .u8 r) (oneM t a bar)) := by
 refine (one_wp b te fre t a bar (fun r t' q => t' = t ∧ oneM t a bar = .ok (r, q)) (fun v t' _ => t' = t ∧ ∃ e, oneM t a bar = .error e ∧ v = faultV 10 e) ?_).weak ?_
 ·have hb := peekB_bd t a
  unfold one_vc oneM peekOk
  refine ⟨h.1, ?_⟩
  by_cases h1 : a < t.length
  ·have hI : I64 (a + 1) := ⟨by omega, by omega⟩
   have hbar := idx_bar bar (peekB t a)
   generalize peekB t a = c at hb hbar ⊢
   simp only [h1, decide_true, Bool.true_and, if_true]
   generalize Lib.indexByte bar c.toNat.toUInt8 = ix at hbar ⊢
   generalize bar.contains c.toNat.toUInt8 = bc at hbar ⊢
   by_cases e1 : c = 92
   ·rw [if_pos (by simpa using e1), if_pos e1]
    exact ⟨hI, ⟨by omega, by omega, h.2.2⟩, fun r q hr => by simp [hr], fun e q he => by simp [he]⟩
   ·rw [if_neg (by simpa using e1), if_neg e1]
    by_cases e5 : c < 32 ∨ 126 < c ∨ bc = true
    ·rw [if_pos (by rw [← hbar] at e5; simp; omega), if_pos e5]; simp
    ·rw [if_neg (by rw [← hbar] at e5; simp; omega), if_neg e5]; simp [hI]
  ·simp only [h1, decide_false, Bool.false_and, if_false]
   rw [if_neg (by simp), if_pos (by simp)]
   simp
 ·rintro o (⟨r, t', q, ⟨rfl, hm⟩, rfl⟩ | ⟨v, t', q, ⟨rfl, e, hm, rfl⟩, rfl⟩)
  ·exact .inl ⟨r, q, hm, rfl⟩
  ·exact .inr ⟨e, q, hm, rfl⟩

end Go.Proofs.YtohnchdnkbadaaaDoor
namespace Go.Proofs.YtohnchdnkbadaaaDoor
open Go Go.RowKit

theorem tf_zero_84 : zeroB Tryd.prog 84 = some (wl cs0) := by kernel_rfl
theorem tf_ent_175 : entB Tryd.prog 175 = true := by kernel_rfl
theorem tf_row_84 : RowT Tryd.prog 84 4 := ⟨by kernel_rfl, by kernel_rfl⟩
theorem tf_ent_176 : entB Tryd.prog 176 = true := by kernel_rfl
theorem tf_ent_180 : entB Tryd.prog 180 = true := by kernel_rfl
theorem tf_size_84 : sizeB Tryd.prog 84 4 = true := by kernel_rfl
theorem tf_ent_125 : entB Tryd.prog 125 = true := by kernel_rfl
theorem tf_ent_41 : entB Tryd.prog 41 = true := by kernel_rfl
theorem tf_ent_174 : entB Tryd.prog 174 = true := by kernel_rfl

def members_vc (r_0 : List UInt8) (r_1 : Int) (K : CS → (List UInt8) → Int → Prop) (KP : Value → (List UInt8) → Int → Prop) : Prop :=
 (0 ≤ r_1) ∧
 ∃ (J0 : Int → Prop),
  (∀ (r_1_1' : Int), J0 r_1_1' →
   ∃ (Inv : CS → Int → Prop) (mu : CS → Int → Nat),
    Inv cs0 r_1_1' ∧ ∀ (a_1' : CS) (r_1_5' : Int), Inv a_1' r_1_5' →
     (0 ≤ r_1_5') ∧
     (if ((peekOk r_0 r_1_5') && (decide (peekB r_0 r_1_5' = 93))) = true then
      (I64 (r_1_5' + 1)) ∧
      (if ((peekOk r_0 r_1) && (decide (peekB r_0 r_1 = 94))) = true then
       K (~~~ a_1') r_0 (r_1_5' + 1)
      else
       K a_1' r_0 (r_1_5' + 1))
     else
      (0 ≤ r_1_5' ∧ r_1_5' ≤ r_0.length ∧ r_0.length ≤ 9223372036854775807) ∧
      (∀ (r_7' : Int) (at0_12' : Int), oneM r_0 r_1_5' ([92, 93, 91, 45, 94, 47] : List UInt8) = .ok (r_7', at0_12') →
       ∃ (J0_3' : Int → Int → Prop),
        (∀ (hi_2' : Int) (r_1_6' : Int), J0_3' hi_2' r_1_6' →
         ((0 ≤ r_7' ∧ r_7' < 256) ∧ (0 ≤ hi_2' ∧ hi_2' < 256)) ∧
         Inv (a_1' ||| (spanS (r_7').toNat (hi_2').toNat)) r_1_6' ∧ mu (a_1' ||| (spanS (r_7').toNat (hi_2').toNat)) r_1_6' < mu a_1' r_1_5') ∧
        (0 ≤ at0_12') ∧
        (if ((peekOk r_0 at0_12') && (decide (peekB r_0 at0_12' = 45))) = true then
         (I64 (at0_12' + 1)) ∧
         (0 ≤ at0_12' + 1 ∧ at0_12' + 1 ≤ r_0.length ∧ r_0.length ≤ 9223372036854775807) ∧
         (∀ (r_9' : Int) (at0_16' : Int), oneM r_0 (at0_12' + 1) ([92, 93, 91, 45, 94, 47] : List UInt8) = .ok (r_9', at0_16') →
          (if (decide (r_9' < r_7')) = true then
           KP (faultV 10 (at0_12' + 1)) r_0 at0_16'
          else
           J0_3' r_9' at0_16')) ∧
         (∀ (e_8' : Int) (at0_17' : Int), oneM r_0 (at0_12' + 1) ([92, 93, 91, 45, 94, 47] : List UInt8) = .error e_8' →
          KP (faultV 10 e_8') r_0 at0_17')
        else
         J0_3' r_7' at0_12')) ∧
      (∀ (e_6' : Int) (at0_13' : Int), oneM r_0 r_1_5' ([92, 93, 91, 45, 94, 47] : List UInt8) = .error e_6' →
       KP (faultV 10 e_6') r_0 at0_13'))) ∧
  (if ((peekOk r_0 r_1) && (decide (peekB r_0 r_1 = 94))) = true then
   (I64 (r_1 + 1)) ∧
   J0 (r_1 + 1)
  else
   J0 r_1)
set_option maxRecDepth 100000 in
theorem members_wp (b : Nat) (te : TypeId) (fre : Nat × Nat) (r_0 : List UInt8) (r_1 : Int) (K : CS → (List UInt8) → Int → Prop) (KP : Value → (List UInt8) → Int → Prop) (h : members_vc r_0 r_1 K KP) :
  Does Tryd.prog 174 [zP b] [(1, .cells [zU 110, zU 10, zU 114, zU 13, zU 116, zU 9].toArray te fre)] [HA.blk b (.cells [st r_0, zI r_1].toArray 222 (0, 0))] (fun o => (∃ (v : CS) (d_0 : List UInt8) (d_1 : Int), K v d_0 d_1 ∧ o = .ret (Value.agg (wl v).toArray) [HA.blk b (.cells [st d_0, zI d_1].toArray 222 (0, 0))]) ∨ (∃ (pv : Value) (d_0 : List UInt8) (d_1 : Int), KP pv d_0 d_1 ∧ o = .pan [{ v := pv, recovered := false }] [HA.blk b (.cells [st d_0, zI d_1].toArray 222 (0, 0))])) := by
 unfold members_vc at h
 refine does_of_wc (n := 90) (L0 := [(0, zP b)]) Tryd.func174 rfl rfl rfl rfl (fun w0 M Q hE => ?_)
 refine wc_seq (fun K0 hK => ?_)
 refine wc_region ?_
 refine WL.make (MV.alloc tf_zero_84) rfl rfl rfl (fun b_1' => ?_)
 refine WL.nil ?_
 refine KX.go (hK [(0, zP b), (2, zP b_1')] _ ?_) ⟨rfl, rfl, trivial⟩
 refine wc_seq (fun K0_1' hK_1' => ?_)
 refine wc_region ?_
 refine WL.make (MV.alloc tf_zero_84) rfl rfl rfl (fun b_2' => ?_)
 refine WL.nil ?_
 refine KX.go (hK_1' [(0, zP b), (2, zP b_1'), (3, zP b_2')] _ ?_) ⟨rfl, rfl, rfl, trivial⟩
 refine wc_seq (fun K0_2' hK_2' => ?_)
 refine wc_region ?_
 refine wv (OV.move rfl) ?_
 obtain ⟨o, h⟩ := h
 refine WL.call (A := []) tf_ent_178 rfl (peek_does b r_0 r_1 o) rfl ⟨.inl ⟨2, rfl⟩, trivial⟩ rfl rfl ?_
 refine wv (OV.move rfl) ?_
 refine wv (OV.extract 0 rfl rfl) ?_
 refine wv (OV.extract 1 rfl rfl) ?_
 refine wv (OV.assign rfl) ?_
 refine wv (OV.assign rfl) ?_
 refine WL.nil ?_
 refine KX.go (hK_2' [(0, zP b), (2, zP b_1'), (3, zP b_2'), (4, zU (peekB r_0 r_1)), (5, zB (peekOk r_0 r_1))] _ ?_) ⟨rfl, rfl, rfl, rfl, rfl, trivial⟩
 refine wc_seq (fun K0_3' hK_3' => ?_)
 refine wc_region ?_
 refine wv (OV.move rfl) ?_
 refine wv (OV.move rfl) ?_
 refine WL.cut 3 [(0, zP b), (2, zP b_1'), (3, zP b_2'), (23, zB ((peekOk r_0 r_1) && (decide (peekB r_0 r_1 = 94))))] ?_ (fun K0_4' hK_4' => ?_)
 rotate_left
 ·refine WL.split (peekOk r_0 r_1) (fun hb => ?_) (fun hb => ?_)
  ·refine WL.set 20 rfl (congrArg zB hb) ?_
   refine wv (OV.move rfl) ?_
   refine wv (OV.eql rfl rfl) ?_
   refine wv (OV.pickT rfl rfl) ?_
   refine WL.set 23 rfl (bT (v := decide (peekB r_0 r_1 = 94)) hb) ?_
   exact WL.end_ (KX.go hK_4' ⟨rfl, rfl, rfl, rfl, trivial⟩)
  ·refine WL.set 20 rfl (congrArg zB hb) ?_
   refine WL.skip rfl rfl rfl ?_
   refine WL.skip rfl rfl rfl ?_
   refine wv (OV.pickF rfl rfl) ?_
   refine WL.set 23 rfl (bF (v := decide (peekB r_0 r_1 = 94)) hb) ?_
   exact WL.end_ (KX.go hK_4' ⟨rfl, rfl, rfl, rfl, trivial⟩)
 refine wv (OV.assign rfl) ?_
 refine WL.nil ?_
 refine KX.go (hK_3' [(0, zP b), (2, zP b_1'), (3, zP b_2'), (6, zB ((peekOk r_0 r_1) && (decide (peekB r_0 r_1 = 94))))] _ ?_) ⟨rfl, rfl, rfl, rfl, trivial⟩
 obtain ⟨J0, hJ, h⟩ := h
 refine wc_seqJ (X := Int) (fun σ => J0 σ) (fun σ => [(0, zP b), (2, zP b_1'), (3, zP b_2'), (6, zB ((peekOk r_0 r_1) && (decide (peekB r_0 r_1 = 94))))]) (fun σ => [HA.blk b_2' (.cells (wl cs0).toArray 84 (0, 0)), HA.blk b_1' (.cells (wl cs0).toArray 84 (0, 0)), HA.blk b (.cells [st r_0, zI σ].toArray 222 (0, 0))]) ?_ (fun K0_6' hK_6' => ?_)
 ·rintro r_1_1' hj
  replace h := hJ r_1_1' hj
  show WC _ _ _ _ [(0, zP b), (2, zP b_1'), (3, zP b_2'), (6, zB ((peekOk r_0 r_1) && (decide (peekB r_0 r_1 = 94))))] [HA.blk b_2' (.cells (wl cs0).toArray 84 (0, 0)), HA.blk b_1' (.cells (wl cs0).toArray 84 (0, 0)), HA.blk b (.cells [st r_0, zI r_1_1'].toArray 222 (0, 0))]
  refine wc_seq (fun K0_7' hK_7' => ?_)
  refine wc_block ?_
  obtain ⟨Inv, mu, h0, hr⟩ := h
  refine wc_loop (S := CS × Int) (fun σ => Inv σ.1 σ.2) (fun σ => mu σ.1 σ.2) (fun σ => [(0, zP b), (2, zP b_1'), (3, zP b_2'), (6, zB ((peekOk r_0 r_1) && (decide (peekB r_0 r_1 = 94))))]) (fun σ => [HA.blk b_2' (.cells (wl σ.1).toArray 84 (0, 0)), HA.blk b_1' (.cells (wl cs0).toArray 84 (0, 0)), HA.blk b (.cells [st r_0, zI σ.2].toArray 222 (0, 0))]) (cs0, r_1_1') h0 ⟨rfl, rfl, rfl, rfl, trivial⟩ rfl ?_
  rintro ⟨a_1', r_1_5'⟩ hi K0_52' hK_52'
  have h := hr a_1' r_1_5' hi
  show WC _ _ _ _ [(0, zP b), (2, zP b_1'), (3, zP b_2'), (6, zB ((peekOk r_0 r_1) && (decide (peekB r_0 r_1 = 94))))] [HA.blk b_2' (.cells (wl a_1').toArray 84 (0, 0)), HA.blk b_1' (.cells (wl cs0).toArray 84 (0, 0)), HA.blk b (.cells [st r_0, zI r_1_5'].toArray 222 (0, 0))]
  refine wc_block ?_
  refine wc_seq (fun K0_53' hK_53' => ?_)
  refine wc_seq (fun K0_54' hK_54' => ?_)
  refine wc_region ?_
  refine wv (OV.move rfl) ?_
  obtain ⟨o_29', h⟩ := h
  refine WL.call (A := []) tf_ent_178 rfl (peek_does b r_0 r_1_5' o_29') rfl ⟨.inl ⟨2, rfl⟩, trivial⟩ rfl rfl ?_
  refine wv (OV.move rfl) ?_
  refine wv (OV.extract 0 rfl rfl) ?_
  refine wv (OV.extract 1 rfl rfl) ?_
  refine wv (OV.assign rfl) ?_
  refine wv (OV.assign rfl) ?_
  refine WL.nil ?_
  refine KX.go (hK_54' [(0, zP b), (2, zP b_1'), (3, zP b_2'), (6, zB ((peekOk r_0 r_1) && (decide (peekB r_0 r_1 = 94)))), (7, zU (peekB r_0 r_1_5')), (8, zB (peekOk r_0 r_1_5'))] _ ?_) ⟨rfl, rfl, rfl, rfl, rfl, rfl, trivial⟩
  refine wc_seq (fun K0_55' hK_55' => ?_)
  refine wc_region ?_
  refine wv (OV.move rfl) ?_
  refine wv (OV.move rfl) ?_
  refine WL.cut 3 [(0, zP b), (2, zP b_1'), (3, zP b_2'), (6, zB ((peekOk r_0 r_1) && (decide (peekB r_0 r_1 = 94)))), (41, zB ((peekOk r_0 r_1_5') && (decide (peekB r_0 r_1_5' = 93))))] ?_ (fun K0_56' hK_56' => ?_)
  rotate_left
  ·refine WL.split (peekOk r_0 r_1_5') (fun hb => ?_) (fun hb => ?_)
   ·refine WL.set 38 rfl (congrArg zB hb) ?_
    refine wv (OV.move rfl) ?_
    refine wv (OV.eql rfl rfl) ?_
    refine wv (OV.pickT rfl rfl) ?_
    refine WL.set 41 rfl (bT (v := decide (peekB r_0 r_1_5' = 93)) hb) ?_
    exact WL.end_ (KX.go hK_56' ⟨rfl, rfl, rfl, rfl, rfl, trivial⟩)
   ·refine WL.set 38 rfl (congrArg zB hb) ?_
    refine WL.skip rfl rfl rfl ?_
    refine WL.skip rfl rfl rfl ?_
    refine wv (OV.pickF rfl rfl) ?_
    refine WL.set 41 rfl (bF (v := decide (peekB r_0 r_1_5' = 93)) hb) ?_
    exact WL.end_ (KX.go hK_56' ⟨rfl, rfl, rfl, rfl, rfl, trivial⟩)
  refine WL.nil ?_
  refine KX.go (hK_55' [(0, zP b), (2, zP b_1'), (3, zP b_2'), (6, zB ((peekOk r_0 r_1) && (decide (peekB r_0 r_1 = 94)))), (41, zB ((peekOk r_0 r_1_5') && (decide (peekB r_0 r_1_5' = 93))))] _ ?_) ⟨rfl, rfl, rfl, rfl, rfl, trivial⟩
  refine wc_cond (b := (peekOk r_0 r_1_5') && (decide (peekB r_0 r_1_5' = 93))) rfl (fun hb => ?_) (fun hb => ?_)
  ·replace h := if_T h hb
   refine wc_seq (fun K0_57' hK_57' => ?_)
   refine wc_region ?_
   refine wv (OV.move rfl) ?_
   refine wv (OV.nilCheck rfl) ?_
   refine wv (OV.fieldAddr0 rfl tf_field_222_1) ?_
   refine wv (OV.load rfl (At.own 2 rfl) rfl tf_scal_3) ?_
   obtain ⟨o_31', h⟩ := h
   refine wv (OV.add rfl rfl o_31') ?_
   refine wv (OV.nilCheck rfl) ?_
   refine wv (OV.fieldAddr0 rfl tf_field_222_1) ?_
   refine WL.store (vs := [zI (r_1_5' + 1)]) (cs' := [st r_0, zI (r_1_5' + 1)]) 2 rfl rfl rfl rfl tf_size_3 (Nat.le_of_ble_eq_true rfl) rfl rfl rfl ?_
   refine WL.nil ?_
   refine KX.go (hK_57' [(2, zP b_1'), (3, zP b_2'), (6, zB ((peekOk r_0 r_1) && (decide (peekB r_0 r_1 = 94))))] _ ?_) ⟨rfl, rfl, rfl, trivial⟩
   refine wc_exit ?_
   refine KX.go (hK_7' [(2, zP b_1'), (3, zP b_2'), (6, zB ((peekOk r_0 r_1) && (decide (peekB r_0 r_1 = 94))))] _ ?_) ⟨rfl, rfl, rfl, trivial⟩
   refine wc_seq (fun K0_58' hK_58' => ?_)
   refine wc_seq (fun K0_59' hK_59' => ?_)
   refine wc_region ?_
   refine wv (OV.move rfl) ?_
   refine WL.nil ?_
   refine KX.go (hK_59' [(2, zP b_1'), (3, zP b_2'), (86, zB ((peekOk r_0 r_1) && (decide (peekB r_0 r_1 = 94))))] _ ?_) ⟨rfl, rfl, rfl, trivial⟩
   refine wc_cond (b := (peekOk r_0 r_1) && (decide (peekB r_0 r_1 = 94))) rfl (fun hb => ?_) (fun hb => ?_)
   ·replace h := if_T h hb
    refine wc_seq (fun K0_60' hK_60' => ?_)
    refine wc_region ?_
    refine wv (OV.loadR rfl (At.own 0 rfl) tf_row_84) ?_
    refine WL.call (A := []) tf_ent_125 rfl (not_does a_1') rfl trivial rfl rfl ?_
    refine WL.storeW (vs := wl (~~~ a_1')) 1 rfl rfl rfl rfl rfl tf_size_84 rfl rfl rfl ?_
    refine WL.nil ?_
    refine KX.go (hK_60' [(2, zP b_1')] _ ?_) ⟨rfl, trivial⟩
    refine wc_ret ?_
    exact hE.ret [2] rfl rfl (.inl ⟨_, _, _, h, rfl⟩) (ResV.of1 rfl (RV.row rfl (At.own 1 rfl) tf_row_84))
   ·replace h := if_F h hb
    refine wc_skip ?_
    refine KX.go (hK_58' [(2, zP b_1'), (3, zP b_2')] _ ?_) ⟨rfl, rfl, trivial⟩
    refine wc_seq (fun K0_61' hK_61' => ?_)
    refine wc_region ?_
    refine wv (OV.loadR rfl (At.own 0 rfl) tf_row_84) ?_
    refine WL.storeW (vs := wl a_1') 1 rfl rfl rfl rfl rfl tf_size_84 rfl rfl rfl ?_
    refine WL.nil ?_
    refine KX.go (hK_61' [(2, zP b_1')] _ ?_) ⟨rfl, trivial⟩
    refine wc_ret ?_
    exact hE.ret [2] rfl rfl (.inl ⟨_, _, _, h, rfl⟩) (ResV.of1 rfl (RV.row rfl (At.own 1 rfl) tf_row_84))
  ·replace h := if_F h hb
   refine wc_skip ?_
   refine KX.go (hK_53' [(0, zP b), (2, zP b_1'), (3, zP b_2'), (6, zB ((peekOk r_0 r_1) && (decide (peekB r_0 r_1 = 94))))] _ ?_) ⟨rfl, rfl, rfl, rfl, trivial⟩
   refine wc_seq (fun K0_62' hK_62' => ?_)
   refine wc_region ?_
   refine wv (OV.move rfl) ?_
   obtain ⟨o_32', h⟩ := h
   refine WL.pick (H' := [HA.blk b (.cells [st r_0, zI r_1_5'].toArray 222 (0, 0)), HA.blk b_2' (.cells (wl a_1').toArray 84 (0, 0)), HA.blk b_1' (.cells (wl cs0).toArray 84 (0, 0))]) [2, 0, 1] rfl rfl ?_
   refine WL.callS tf_ent_175 rfl (one_does b te fre r_0 r_1_5' ([92, 93, 91, 45, 94, 47] : List UInt8) o_32') rfl ⟨.inr (List.mem_of_getElem? (i := 0) rfl), trivial⟩ rfl rfl (fun r H' hS => ?_) (fun c H' hS => ?_)
   ·rcases hS with ⟨r_7', at0_12', hc, ho⟩ | ⟨e_6', at0_13', hc, ho⟩ <;> cases ho
    replace h := h.1 r_7' at0_12' hc
    refine wv (OV.assign rfl) ?_
    refine WL.nil ?_
    refine KX.go (hK_62' [(0, zP b), (2, zP b_1'), (3, zP b_2'), (6, zB ((peekOk r_0 r_1) && (decide (peekB r_0 r_1 = 94)))), (9, zU r_7')] _ ?_) ⟨rfl, rfl, rfl, rfl, rfl, trivial⟩
    refine wc_seq (fun K0_63' hK_63' => ?_)
    refine wc_region ?_
    refine wv (OV.move rfl) ?_
    refine wv (OV.assign rfl) ?_
    refine WL.nil ?_
    refine KX.go (hK_63' [(0, zP b), (2, zP b_1'), (3, zP b_2'), (6, zB ((peekOk r_0 r_1) && (decide (peekB r_0 r_1 = 94)))), (9, zU r_7'), (10, zU r_7')] _ ?_) ⟨rfl, rfl, rfl, rfl, rfl, rfl, trivial⟩
    obtain ⟨J0_3', hJ_3', h⟩ := h
    refine wc_seqJ (X := Int × Int) (fun σ => J0_3' σ.1 σ.2) (fun σ => [(0, zP b), (2, zP b_1'), (3, zP b_2'), (6, zB ((peekOk r_0 r_1) && (decide (peekB r_0 r_1 = 94)))), (9, zU r_7'), (10, zU σ.1)]) (fun σ => [HA.blk b (.cells [st r_0, zI σ.2].toArray 222 (0, 0)), HA.blk b_2' (.cells (wl a_1').toArray 84 (0, 0)), HA.blk b_1' (.cells (wl cs0).toArray 84 (0, 0))]) ?_ (fun K0_71' hK_71' => ?_)
    ·rintro ⟨hi_2', r_1_6'⟩ hj
     replace h := hJ_3' hi_2' r_1_6' hj
     show WC _ _ _ _ [(0, zP b), (2, zP b_1'), (3, zP b_2'), (6, zB ((peekOk r_0 r_1) && (decide (peekB r_0 r_1 = 94)))), (9, zU r_7'), (10, zU hi_2')] [HA.blk b (.cells [st r_0, zI r_1_6'].toArray 222 (0, 0)), HA.blk b_2' (.cells (wl a_1').toArray 84 (0, 0)), HA.blk b_1' (.cells (wl cs0).toArray 84 (0, 0))]
     refine wc_draw 4 [] tf_mixed (by kernel_rfl) rfl (fun T_2' hT_2' => ?_)
     refine FL.val (fun _ => OV.loadR rfl (At.own 1 rfl) tf_row_84) rfl (fun _ => rfl) rfl rfl ?_
     refine FL.val (fun _ => OV.move rfl) rfl (fun _ => rfl) rfl rfl ?_
     refine FL.val (fun _ => OV.move rfl) rfl (fun _ => rfl) rfl rfl ?_
     obtain ⟨o_37', h⟩ := h
     refine FL.call tf_ent_176 (fun _ => rfl) (span_does r_7' hi_2' o_37') trivial rfl (fun _ => rfl) rfl ?_
     refine FL.weak (L' := fun γ => [(0, zP b), (2, zP b_1'), (3, zP b_2'), (6, zB ((peekOk r_0 r_1) && (decide (peekB r_0 r_1 = 94)))), (81, Value.agg (wl a_1').toArray), (84, Value.agg (wl (spanS (r_7').toNat (hi_2').toNat)).toArray)]) (fun γ => ⟨rfl, rfl, rfl, rfl, rfl, rfl, trivial⟩) (FL.nil (hT_2' (fun γ => [(0, zP b), (2, zP b_1'), (3, zP b_2'), (6, zB ((peekOk r_0 r_1) && (decide (peekB r_0 r_1 = 94)))), (81, Value.agg (wl a_1').toArray), (84, Value.agg (wl (spanS (r_7').toNat (hi_2').toNat)).toArray)]) (fun γ => ?_)))
     refine WL.call (A := []) tf_ent_180 rfl (union_does a_1' (spanS (r_7').toNat (hi_2').toNat)) rfl trivial rfl rfl ?_
     refine WL.storeW (vs := wl (a_1' ||| (spanS (r_7').toNat (hi_2').toNat))) 1 rfl rfl rfl rfl rfl tf_size_84 rfl rfl rfl ?_
     refine WL.nil ?_
     exact KX.goH (hK_52' (a_1' ||| (spanS (r_7').toNat (hi_2').toNat), r_1_6') h.1 h.2) ⟨rfl, rfl, rfl, rfl, trivial⟩ [1, 2, 0] rfl rfl
    ·skip
     refine wc_seq (fun K0_72' hK_72' => ?_)
     refine wc_region ?_
     refine wv (OV.move rfl) ?_
     obtain ⟨o_38', h⟩ := h
     refine WL.call (A := []) tf_ent_178 rfl (peek_does b r_0 at0_12' o_38') rfl ⟨.inl ⟨0, rfl⟩, trivial⟩ rfl rfl ?_
     refine wv (OV.move rfl) ?_
     refine wv (OV.extract 0 rfl rfl) ?_
     refine wv (OV.extract 1 rfl rfl) ?_
     refine wv (OV.assign rfl) ?_
     refine wv (OV.assign rfl) ?_
     refine WL.nil ?_
     refine KX.go (hK_72' [(0, zP b), (2, zP b_1'), (3, zP b_2'), (6, zB ((peekOk r_0 r_1) && (decide (peekB r_0 r_1 = 94)))), (9, zU r_7'), (10, zU r_7'), (11, zU (peekB r_0 at0_12')), (12, zB (peekOk r_0 at0_12'))] _ ?_) ⟨rfl, rfl, rfl, rfl, rfl, rfl, rfl, rfl, trivial⟩
     refine wc_seq (fun K0_73' hK_73' => ?_)
     refine wc_region ?_
     refine wv (OV.move rfl) ?_
     refine wv (OV.move rfl) ?_
     refine WL.cut 3 [(0, zP b), (2, zP b_1'), (3, zP b_2'), (6, zB ((peekOk r_0 r_1) && (decide (peekB r_0 r_1 = 94)))), (9, zU r_7'), (10, zU r_7'), (61, zB ((peekOk r_0 at0_12') && (decide (peekB r_0 at0_12' = 45))))] ?_ (fun K0_74' hK_74' => ?_)
     rotate_left
     ·refine WL.split (peekOk r_0 at0_12') (fun hb => ?_) (fun hb => ?_)
      ·refine WL.set 58 rfl (congrArg zB hb) ?_
       refine wv (OV.move rfl) ?_
       refine wv (OV.eql rfl rfl) ?_
       refine wv (OV.pickT rfl rfl) ?_
       refine WL.set 61 rfl (bT (v := decide (peekB r_0 at0_12' = 45)) hb) ?_
       exact WL.end_ (KX.go hK_74' ⟨rfl, rfl, rfl, rfl, rfl, rfl, rfl, trivial⟩)
      ·refine WL.set 58 rfl (congrArg zB hb) ?_
       refine WL.skip rfl rfl rfl ?_
       refine WL.skip rfl rfl rfl ?_
       refine wv (OV.pickF rfl rfl) ?_
       refine WL.set 61 rfl (bF (v := decide (peekB r_0 at0_12' = 45)) hb) ?_
       exact WL.end_ (KX.go hK_74' ⟨rfl, rfl, rfl, rfl, rfl, rfl, rfl, trivial⟩)
     refine WL.nil ?_
     refine KX.go (hK_73' [(0, zP b), (2, zP b_1'), (3, zP b_2'), (6, zB ((peekOk r_0 r_1) && (decide (peekB r_0 r_1 = 94)))), (9, zU r_7'), (10, zU r_7'), (61, zB ((peekOk r_0 at0_12') && (decide (peekB r_0 at0_12' = 45))))] _ ?_) ⟨rfl, rfl, rfl, rfl, rfl, rfl, rfl, trivial⟩
     refine wc_cond (b := (peekOk r_0 at0_12') && (decide (peekB r_0 at0_12' = 45))) rfl (fun hb => ?_) (fun hb => ?_)
     ·replace h := if_T h hb
      refine wc_seq (fun K0_75' hK_75' => ?_)
      refine wc_region ?_
      refine wv (OV.move rfl) ?_
      refine wv (OV.nilCheck rfl) ?_
      refine wv (OV.fieldAddr0 rfl tf_field_222_1) ?_
      refine wv (OV.load rfl (At.own 0 rfl) rfl tf_scal_3) ?_
      obtain ⟨o_40', h⟩ := h
      refine wv (OV.add rfl rfl o_40') ?_
      refine wv (OV.nilCheck rfl) ?_
      refine wv (OV.fieldAddr0 rfl tf_field_222_1) ?_
      refine WL.store (vs := [zI (at0_12' + 1)]) (cs' := [st r_0, zI (at0_12' + 1)]) 0 rfl rfl rfl rfl tf_size_3 (Nat.le_of_ble_eq_true rfl) rfl rfl rfl ?_
      refine WL.nil ?_
      refine KX.go (hK_75' [(0, zP b), (2, zP b_1'), (3, zP b_2'), (6, zB ((peekOk r_0 r_1) && (decide (peekB r_0 r_1 = 94)))), (9, zU r_7')] _ ?_) ⟨rfl, rfl, rfl, rfl, rfl, trivial⟩
      refine wc_seq (fun K0_76' hK_76' => ?_)
      refine wc_region ?_
      refine wv (OV.move rfl) ?_
      refine wv (OV.nilCheck rfl) ?_
      refine wv (OV.fieldAddr0 rfl tf_field_222_1) ?_
      refine wv (OV.load rfl (At.own 0 rfl) rfl tf_scal_3) ?_
      refine wv (OV.assign rfl) ?_
      refine WL.nil ?_
      refine KX.go (hK_76' [(0, zP b), (2, zP b_1'), (3, zP b_2'), (6, zB ((peekOk r_0 r_1) && (decide (peekB r_0 r_1 = 94)))), (9, zU r_7'), (13, zI (at0_12' + 1))] _ ?_) ⟨rfl, rfl, rfl, rfl, rfl, rfl, trivial⟩
      refine wc_seq (fun K0_77' hK_77' => ?_)
      refine wc_region ?_
      refine wv (OV.move rfl) ?_
      obtain ⟨o_41', h⟩ := h
      refine WL.callS tf_ent_175 rfl (one_does b te fre r_0 (at0_12' + 1) ([92, 93, 91, 45, 94, 47] : List UInt8) o_41') rfl ⟨.inr (List.mem_of_getElem? (i := 0) rfl), trivial⟩ rfl rfl (fun r H' hS => ?_) (fun c H' hS => ?_)
      ·rcases hS with ⟨r_9', at0_16', hc, ho⟩ | ⟨e_8', at0_17', hc, ho⟩ <;> cases ho
       replace h := h.1 r_9' at0_16' hc
       refine wv (OV.assign rfl) ?_
       refine WL.nil ?_
       refine KX.go (hK_77' [(0, zP b), (2, zP b_1'), (3, zP b_2'), (6, zB ((peekOk r_0 r_1) && (decide (peekB r_0 r_1 = 94)))), (9, zU r_7'), (10, zU r_9'), (13, zI (at0_12' + 1))] _ ?_) ⟨rfl, rfl, rfl, rfl, rfl, rfl, rfl, trivial⟩
       refine wc_seq (fun K0_78' hK_78' => ?_)
       refine wc_region ?_
       refine wv (OV.move rfl) ?_
       refine wv (OV.move rfl) ?_
       refine wv (OV.lss rfl rfl) ?_
       refine WL.nil ?_
       refine KX.go (hK_78' [(0, zP b), (2, zP b_1'), (3, zP b_2'), (6, zB ((peekOk r_0 r_1) && (decide (peekB r_0 r_1 = 94)))), (9, zU r_7'), (10, zU r_9'), (13, zI (at0_12' + 1)), (77, zB (decide (r_9' < r_7')))] _ ?_) ⟨rfl, rfl, rfl, rfl, rfl, rfl, rfl, rfl, trivial⟩
       refine wc_cond (b := decide (r_9' < r_7')) rfl (fun hb => ?_) (fun hb => ?_)
       ·replace h := if_T h hb
        refine wc_region ?_
        refine wv (OV.move rfl) ?_
        refine wv (OV.move rfl) ?_
        refine WL.callS tf_ent_179 rfl (fail_does b (at0_12' + 1)) rfl trivial rfl rfl (fun r H' hS => by cases hS) (fun c H' hS => ?_)
        cases hS
        exact hE.pan [0] rfl rfl (.inr ⟨_, _, _, h, rfl⟩)
       ·replace h := if_F h hb
        refine wc_skip ?_
        exact KX.goH (hK_71' (r_9', at0_16') h) ⟨rfl, rfl, rfl, rfl, rfl, rfl, trivial⟩ [0, 1, 2] rfl rfl
      ·rcases hS with ⟨r_9', at0_16', hc, ho⟩ | ⟨e_8', at0_17', hc, ho⟩ <;> cases ho
       replace h := h.2 e_8' at0_17' hc
       exact hE.pan [0] rfl rfl (.inr ⟨_, _, _, h, rfl⟩)
     ·replace h := if_F h hb
      refine wc_skip ?_
      exact KX.goH (hK_71' (r_7', at0_12') h) ⟨rfl, rfl, rfl, rfl, rfl, rfl, trivial⟩ [0, 1, 2] rfl rfl
   ·rcases hS with ⟨r_7', at0_12', hc, ho⟩ | ⟨e_6', at0_13', hc, ho⟩ <;> cases ho
    replace h := h.2 e_6' at0_13' hc
    exact hE.pan [0] rfl rfl (.inr ⟨_, _, _, h, rfl⟩)
 ·skip
  refine wc_seq (fun K0_79' hK_79' => ?_)
  refine wc_region ?_
  refine wv (OV.move rfl) ?_
  refine WL.nil ?_
  refine KX.go (hK_79' [(0, zP b), (2, zP b_1'), (3, zP b_2'), (6, zB ((peekOk r_0 r_1) && (decide (peekB r_0 r_1 = 94)))), (24, zB ((peekOk r_0 r_1) && (decide (peekB r_0 r_1 = 94))))] _ ?_) ⟨rfl, rfl, rfl, rfl, rfl, trivial⟩
  refine wc_cond (b := (peekOk r_0 r_1) && (decide (peekB r_0 r_1 = 94))) rfl (fun hb => ?_) (fun hb => ?_)
  ·replace h := if_T h hb
   refine wc_region ?_
   refine wv (OV.move rfl) ?_
   refine wv (OV.nilCheck rfl) ?_
   refine wv (OV.fieldAddr0 rfl tf_field_222_1) ?_
   refine wv (OV.load rfl (At.own 2 rfl) rfl tf_scal_3) ?_
   obtain ⟨o_42', h⟩ := h
   refine wv (OV.add rfl rfl o_42') ?_
   refine wv (OV.nilCheck rfl) ?_
   refine wv (OV.fieldAddr0 rfl tf_field_222_1) ?_
   refine WL.store (vs := [zI (r_1 + 1)]) (cs' := [st r_0, zI (r_1 + 1)]) 2 rfl rfl rfl rfl tf_size_3 (Nat.le_of_ble_eq_true rfl) rfl rfl rfl ?_
   refine WL.nil ?_
   exact KX.goH (hK_6' (r_1 + 1) h) ⟨rfl, rfl, rfl, rfl, trivial⟩ [0, 1, 2] rfl rfl
  ·replace h := if_F h hb
   refine wc_skip ?_
   exact KX.goH (hK_6' r_1 h) ⟨rfl, rfl, rfl, rfl, trivial⟩ [0, 1, 2] rfl rfl

/-- The members of a set, up to the closing bracket: with fuel. -/
def memF (t : List UInt8) : Nat → CS → Int → Except Int (CS × Int)
 | 0, _, a => .error a
 | n + 1, s, a =>
  if a < t.length ∧ peekB t a = 93 then .ok (s, a + 1)
  else match oneM t a inL with
   | .error e => .error e
   | .ok (lo, p) =>
    if p < t.length ∧ peekB t p = 45 then
     match oneM t (p + 1) inL with
     | .error e => .error e
     | .ok (hi, q) => if hi < lo then .error (p + 1) else memF t n (s ||| spanS lo.toNat hi.toNat) q
    else memF t n (s ||| spanS lo.toNat lo.toNat) p
def memM (t : List UInt8) (a : Int) : Except Int (CS × Int) :=
 if a < t.length ∧ peekB t a = 94 then
  match memF t (t.length + 1) cs0 (a + 1) with
  | .ok (s, q) => .ok (~~~ s, q)
  | .error e => .error e
 else memF t (t.length + 1) cs0 a
def RdOutS (b : Nat) (t : List UInt8) (m : Except Int (CS × Int)) : Out → Prop := fun o =>
 (∃ r q, m = .ok (r, q) ∧ o = .ret (.agg (wl r).toArray) [rdBlk b t q]) ∨ (∃ e q, m = .error e ∧ o = .pan [{ v := faultV 10 e, recovered := false }] [rdBlk b t q])

theorem escM_ok {t : List UInt8} {a r q : Int} (h : escM t a = .ok (r, q)) : 0 ≤ r ∧ r < 256 ∧ a < q ∧ q ≤ t.length := by
 have hb := peekB_bd t a
 unfold escM at h
 split at h
 ·rename_i h1
  simp only at h
  repeat' split at h
  all_goals first
   | (cases h; done)
   | (cases h; omega)
   | skip
  rename_i hp _ _ _ hq
  have h3 := hexM_ok hp
  have h4 := hexM_ok hq
  cases h
  omega
 ·cases h
theorem oneM_ok {t : List UInt8} {a r q : Int} {bar : List UInt8} (h : oneM t a bar = .ok (r, q)) : 0 ≤ r ∧ r < 256 ∧ a < q ∧ q ≤ t.length := by
 have hb := peekB_bd t a
 unfold oneM at h
 split at h
 ·simp only at h
  split at h
  ·have := escM_ok h; omega
  ·split at h
   ·cases h
   ·cases h; omega
 ·cases h
theorem members_does (b : Nat) (te : TypeId) (fre : Nat × Nat) (t : List UInt8) (a : Int) (h : 0 ≤ a ∧ a ≤ t.length ∧ t.length ≤ 9223372036854775807) : Does Tryd.prog 174 [.pointer (some ⟨b, 0, none⟩)] (escTab te fre) [rdBlk b t a] (RdOutS b t (memM t a)) := by
 refine (members_wp b te fre t a (fun r t' q => t' = t ∧ memM t a = .ok (r, q)) (fun v t' _ => t' = t ∧ ∃ e, memM t a = .error e ∧ v = faultV 10 e) ?_).weak ?_
 ·unfold members_vc
  refine ⟨h.1, fun p => a ≤ p ∧ p ≤ t.length ∧ memM t a = (if a < t.length ∧ peekB t a = 94 then match memF t (t.length + 1) cs0 p with
    | .ok (s, q) => .ok (~~~ s, q)
    | .error e => .error e
   else memF t (t.length + 1) cs0 p), fun p hp => ?_, ?_⟩
  ·obtain ⟨hp0, hpl, hM⟩ := hp
   obtain ⟨R, hR⟩ : ∃ R, memF t (t.length + 1) cs0 p = R := ⟨_, rfl⟩
   rw [hR] at hM
   refine ⟨fun s q => a ≤ q ∧ q ≤ t.length ∧ ∃ n, t.length - q.toNat < n ∧ R = memF t n s q, fun _ q => t.length - q.toNat, ⟨hp0, hpl, _, by omega, hR.symm⟩, ?_⟩
   rintro s q ⟨hq0, hql, n, hn, hF⟩
   obtain ⟨n, rfl⟩ : ∃ m, n = m + 1 := ⟨n - 1, by omega⟩
   rw [memF] at hF
   refine ⟨by omega, ?_⟩
   by_cases h1 : q < t.length ∧ peekB t q = 93
   ·rw [if_pos (by simpa [peekOk] using h1)]
    rw [if_pos h1] at hF
    refine ⟨⟨by omega, by omega⟩, ?_⟩
    by_cases h2 : a < t.length ∧ peekB t a = 94
    ·rw [if_pos (by simpa [peekOk] using h2)]
     rw [if_pos h2, hF] at hM
     exact ⟨rfl, hM⟩
    ·rw [if_neg (by simpa [peekOk] using h2)]
     rw [if_neg h2, hF] at hM
     exact ⟨rfl, hM⟩
   ·rw [if_neg (by simpa [peekOk] using h1)]
    rw [if_neg h1] at hF
    refine ⟨⟨by omega, hql, h.2.2⟩, fun lo p1 hlo => ?_, fun e p1 he => ?_⟩
    ·have b1 := oneM_ok hlo
     rw [show ([92, 93, 91, 45, 94, 47] : List UInt8) = inL from rfl] at hlo
     rw [hlo] at hF
     simp only at hF
     refine ⟨fun hi q' => 0 ≤ hi ∧ hi < 256 ∧ q < q' ∧ q' ≤ t.length ∧ R = memF t n (s ||| spanS lo.toNat hi.toNat) q', fun hi q' hh => ?_, by omega, ?_⟩
     ·obtain ⟨c1, c2, c3, c4, c5⟩ := hh
      have d1 : q.toNat < q'.toNat := by omega
      have d2 : q'.toNat ≤ t.length := by omega
      clear hM hF
      exact ⟨⟨⟨b1.1, b1.2.1⟩, c1, c2⟩, ⟨by omega, c4, n, by omega, c5⟩, by show t.length - q'.toNat < t.length - q.toNat; omega⟩
     ·by_cases h3 : p1 < t.length ∧ peekB t p1 = 45
      ·rw [if_pos (by simpa [peekOk] using h3)]
       rw [if_pos h3] at hF
       refine ⟨⟨by omega, by omega⟩, ⟨by omega, by omega, h.2.2⟩, fun hi p2 hhi => ?_, fun e p2 he => ?_⟩
       ·have b2 := oneM_ok hhi
        rw [show ([92, 93, 91, 45, 94, 47] : List UInt8) = inL from rfl] at hhi
        rw [hhi] at hF
        simp only at hF
        by_cases h4 : hi < lo
        ·rw [if_pos (by simpa using h4)]
         rw [if_pos h4] at hF
         rw [hF] at hM
         refine ⟨rfl, _, ?_, rfl⟩
         rw [hM]; split <;> rfl
        ·rw [if_neg (by simpa using h4)]
         rw [if_neg h4] at hF
         exact ⟨b2.1, b2.2.1, by omega, b2.2.2.2, hF⟩
       ·rw [show ([92, 93, 91, 45, 94, 47] : List UInt8) = inL from rfl] at he
        rw [he] at hF
        simp only at hF
        rw [hF] at hM
        refine ⟨rfl, _, ?_, rfl⟩
        rw [hM]; split <;> rfl
      ·rw [if_neg (by simpa [peekOk] using h3)]
       rw [if_neg h3] at hF
       exact ⟨b1.1, b1.2.1, by omega, b1.2.2.2, hF⟩
    ·rw [show ([92, 93, 91, 45, 94, 47] : List UInt8) = inL from rfl] at he
     rw [he] at hF
     simp only at hF
     rw [hF] at hM
     refine ⟨rfl, _, ?_, rfl⟩
     rw [hM]; split <;> rfl
  ·by_cases h2 : a < t.length ∧ peekB t a = 94
   ·rw [if_pos (by simpa [peekOk] using h2)]
    refine ⟨⟨by omega, by omega⟩, by omega, by omega, ?_⟩
    rw [if_pos h2]; unfold memM; rw [if_pos h2]
   ·rw [if_neg (by simpa [peekOk] using h2)]
    refine ⟨by omega, by omega, ?_⟩
    rw [if_neg h2]; unfold memM; rw [if_neg h2]
 ·rintro o (⟨r, t', q, ⟨rfl, hm⟩, rfl⟩ | ⟨v, t', q, ⟨rfl, e, hm, rfl⟩, rfl⟩)
  ·exact .inl ⟨r, q, hm, rfl⟩
  ·exact .inr ⟨e, q, hm, rfl⟩

def item_vc (r_0 : List UInt8) (r_1 : Int) (K : CS → (List UInt8) → Int → Prop) (KP : Value → (List UInt8) → Int → Prop) : Prop :=
 (0 ≤ r_1 ∧ r_1 < r_0.length) ∧
 (if (decide (((r_0.getD r_1.toNat 0).toNat : Int) = 46)) = true then
  (I64 (r_1 + 1)) ∧
  (([10] : List UInt8).length ≤ maxLen) ∧
  K (~~~ (ofS ([10] : List UInt8))) r_0 (r_1 + 1)
 else
  (if (decide (((r_0.getD r_1.toNat 0).toNat : Int) = 91)) = true then
   (I64 (r_1 + 1)) ∧
   (0 ≤ r_1 + 1 ∧ r_1 + 1 ≤ r_0.length ∧ r_0.length ≤ 9223372036854775807) ∧
   (∀ (r_1' : CS) (at0 : Int), memM r_0 (r_1 + 1) = .ok (r_1', at0) →
    K r_1' r_0 at0) ∧
   (∀ (e : Int) (at0_1' : Int), memM r_0 (r_1 + 1) = .error e →
    KP (faultV 10 e) r_0 at0_1')
  else
   (0 ≤ r_1 ∧ r_1 ≤ r_0.length ∧ r_0.length ≤ 9223372036854775807) ∧
   (∀ (r_2' : Int) (at0_2' : Int), oneM r_0 r_1 ([40, 41, 91, 93, 123, 125, 124, 38, 45, 42, 43, 63, 46, 92, 47, 94] : List UInt8) = .ok (r_2', at0_2') →
    ((0 ≤ r_2' ∧ r_2' < 256) ∧ (0 ≤ r_2' ∧ r_2' < 256)) ∧
    K (spanS (r_2').toNat (r_2').toNat) r_0 at0_2') ∧
   (∀ (e_1' : Int) (at0_3' : Int), oneM r_0 r_1 ([40, 41, 91, 93, 123, 125, 124, 38, 45, 42, 43, 63, 46, 92, 47, 94] : List UInt8) = .error e_1' →
    KP (faultV 10 e_1') r_0 at0_3')))
set_option maxRecDepth 100000 in
theorem item_wp (b : Nat) (te : TypeId) (fre : Nat × Nat) (r_0 : List UInt8) (r_1 : Int) (K : CS → (List UInt8) → Int → Prop) (KP : Value → (List UInt8) → Int → Prop) (h : item_vc r_0 r_1 K KP) :
  Does Tryd.prog 170 [zP b] [(1, .cells [zU 110, zU 10, zU 114, zU 13, zU 116, zU 9].toArray te fre)] [HA.blk b (.cells [st r_0, zI r_1].toArray 222 (0, 0))] (fun o => (∃ (v : CS) (d_0 : List UInt8) (d_1 : Int), K v d_0 d_1 ∧ o = .ret (Value.agg (wl v).toArray) [HA.blk b (.cells [st d_0, zI d_1].toArray 222 (0, 0))]) ∨ (∃ (pv : Value) (d_0 : List UInt8) (d_1 : Int), KP pv d_0 d_1 ∧ o = .pan [{ v := pv, recovered := false }] [HA.blk b (.cells [st d_0, zI d_1].toArray 222 (0, 0))])) := by
 unfold item_vc at h
 refine does_of_wc (n := 42) (L0 := [(0, zP b)]) Tryd.func170 rfl rfl rfl rfl (fun w0 M Q hE => ?_)
 refine wc_seq (fun K0 hK => ?_)
 refine wc_region ?_
 refine WL.make (MV.alloc tf_zero_84) rfl rfl rfl (fun b_1' => ?_)
 refine WL.nil ?_
 refine KX.go (hK [(0, zP b), (2, zP b_1')] _ ?_) ⟨rfl, rfl, trivial⟩
 refine wc_seq (fun K0_1' hK_1' => ?_)
 refine wc_seq (fun K0_2' hK_2' => ?_)
 refine wc_draw 8 [] tf_mixed (by kernel_rfl) rfl (fun T hT => ?_)
 refine FL.val (fun _ => OV.move rfl) rfl (fun _ => rfl) rfl rfl ?_
 refine FL.val (fun _ => OV.nilCheck rfl) rfl (fun _ => rfl) rfl rfl ?_
 refine FL.val (fun _ => OV.fieldAddr0 rfl tf_field_222_0) rfl (fun _ => rfl) rfl rfl ?_
 refine FL.val (fun _ => OV.load rfl (At.own 1 rfl) rfl tf_scal_9) rfl (fun _ => rfl) rfl rfl ?_
 refine FL.val (fun _ => OV.move rfl) rfl (fun _ => rfl) rfl rfl ?_
 refine FL.val (fun _ => OV.nilCheck rfl) rfl (fun _ => rfl) rfl rfl ?_
 refine FL.val (fun _ => OV.fieldAddr0 rfl tf_field_222_1) rfl (fun _ => rfl) rfl rfl ?_
 refine FL.val (fun _ => OV.load rfl (At.own 1 rfl) rfl tf_scal_3) rfl (fun _ => rfl) rfl rfl ?_
 refine FL.weak (L' := fun γ => [(0, zP b), (2, zP b_1'), (8, st r_0), (12, zI r_1)]) (fun γ => ⟨rfl, rfl, rfl, rfl, trivial⟩) (FL.nil (hT (fun γ => [(0, zP b), (2, zP b_1'), (8, st r_0), (12, zI r_1)]) (fun γ => ?_)))
 obtain ⟨o, h⟩ := h
 refine wv (OV.index rfl rfl tf_str_9 o) ?_
 refine wv (OV.assign rfl) ?_
 refine WL.nil ?_
 refine KX.go (hK_2' [(0, zP b), (2, zP b_1'), (3, zU ((r_0.getD r_1.toNat 0).toNat : Int))] _ ?_) ⟨rfl, rfl, rfl, trivial⟩
 refine wc_seq (fun K0_3' hK_3' => ?_)
 refine wc_region ?_
 refine wv (OV.move rfl) ?_
 refine WL.nil ?_
 refine KX.go (hK_3' [(0, zP b), (2, zP b_1'), (14, zU ((r_0.getD r_1.toNat 0).toNat : Int))] _ ?_) ⟨rfl, rfl, rfl, trivial⟩
 refine wc_block ?_
 refine wc_seq (fun K0_4' hK_4' => ?_)
 refine wc_region ?_
 refine wv (OV.eql rfl rfl) ?_
 refine wv (OV.assign rfl) ?_
 refine WL.nil ?_
 refine KX.go (hK_4' [(0, zP b), (2, zP b_1'), (14, zU ((r_0.getD r_1.toNat 0).toNat : Int)), (15, zB (decide (((r_0.getD r_1.toNat 0).toNat : Int) = 46)))] _ ?_) ⟨rfl, rfl, rfl, rfl, trivial⟩
 refine wc_cond (b := decide (((r_0.getD r_1.toNat 0).toNat : Int) = 46)) rfl (fun hb => ?_) (fun hb => ?_)
 ·replace h := if_T h hb
  refine wc_seq (fun K0_5' hK_5' => ?_)
  refine wc_region ?_
  refine wv (OV.move rfl) ?_
  refine wv (OV.nilCheck rfl) ?_
  refine wv (OV.fieldAddr0 rfl tf_field_222_1) ?_
  refine wv (OV.load rfl (At.own 1 rfl) rfl tf_scal_3) ?_
  obtain ⟨o_1', h⟩ := h
  refine wv (OV.add rfl rfl o_1') ?_
  refine wv (OV.nilCheck rfl) ?_
  refine wv (OV.fieldAddr0 rfl tf_field_222_1) ?_
  refine WL.store (vs := [zI (r_1 + 1)]) (cs' := [st r_0, zI (r_1 + 1)]) 1 rfl rfl rfl rfl tf_size_3 (Nat.le_of_ble_eq_true rfl) rfl rfl rfl ?_
  refine WL.nil ?_
  refine KX.go (hK_5' [(2, zP b_1')] _ ?_) ⟨rfl, trivial⟩
  refine wc_seq (fun K0_6' hK_6' => ?_)
  refine wc_region ?_
  obtain ⟨o_2', h⟩ := h
  refine WL.call (A := []) tf_ent_41 rfl (of_does ([10] : List UInt8) o_2') rfl trivial rfl rfl ?_
  refine WL.call (A := []) tf_ent_125 rfl (not_does (ofS ([10] : List UInt8))) rfl trivial rfl rfl ?_
  refine WL.storeW (vs := wl (~~~ (ofS ([10] : List UInt8)))) 0 rfl rfl rfl rfl rfl tf_size_84 rfl rfl rfl ?_
  refine WL.nil ?_
  refine KX.go (hK_6' [(2, zP b_1')] _ ?_) ⟨rfl, trivial⟩
  refine wc_ret ?_
  exact hE.ret [1] rfl rfl (.inl ⟨_, _, _, h, rfl⟩) (ResV.of1 rfl (RV.row rfl (At.own 0 rfl) tf_row_84))
 ·replace h := if_F h hb
  refine wc_seq (fun K0_7' hK_7' => ?_)
  refine wc_region ?_
  refine wv (OV.eql rfl rfl) ?_
  refine wv (OV.assign rfl) ?_
  refine WL.nil ?_
  refine KX.go (hK_7' [(0, zP b), (2, zP b_1'), (26, zB (decide (((r_0.getD r_1.toNat 0).toNat : Int) = 91)))] _ ?_) ⟨rfl, rfl, rfl, trivial⟩
  refine wc_cond (b := decide (((r_0.getD r_1.toNat 0).toNat : Int) = 91)) rfl (fun hb => ?_) (fun hb => ?_)
  ·replace h := if_T h hb
   refine wc_seq (fun K0_8' hK_8' => ?_)
   refine wc_region ?_
   refine wv (OV.move rfl) ?_
   refine wv (OV.nilCheck rfl) ?_
   refine wv (OV.fieldAddr0 rfl tf_field_222_1) ?_
   refine wv (OV.load rfl (At.own 1 rfl) rfl tf_scal_3) ?_
   obtain ⟨o_3', h⟩ := h
   refine wv (OV.add rfl rfl o_3') ?_
   refine wv (OV.nilCheck rfl) ?_
   refine wv (OV.fieldAddr0 rfl tf_field_222_1) ?_
   refine WL.store (vs := [zI (r_1 + 1)]) (cs' := [st r_0, zI (r_1 + 1)]) 1 rfl rfl rfl rfl tf_size_3 (Nat.le_of_ble_eq_true rfl) rfl rfl rfl ?_
   refine WL.nil ?_
   refine KX.go (hK_8' [(0, zP b), (2, zP b_1')] _ ?_) ⟨rfl, rfl, trivial⟩
   refine wc_seq (fun K0_9' hK_9' => ?_)
   refine wc_region ?_
   refine wv (OV.move rfl) ?_
   obtain ⟨o_4', h⟩ := h
   refine WL.pick (H' := [HA.blk b (.cells [st r_0, zI (r_1 + 1)].toArray 222 (0, 0)), HA.blk b_1' (.cells (wl cs0).toArray 84 (0, 0))]) [1, 0] rfl rfl ?_
   refine WL.callS tf_ent_174 rfl (members_does b te fre r_0 (r_1 + 1) o_4') rfl ⟨.inr (List.mem_of_getElem? (i := 0) rfl), trivial⟩ rfl rfl (fun r H' hS => ?_) (fun c H' hS => ?_)
   ·rcases hS with ⟨r_1', at0, hc, ho⟩ | ⟨e, at0_1', hc, ho⟩ <;> cases ho
    replace h := h.1 r_1' at0 hc
    refine WL.storeW (vs := wl r_1') 1 rfl rfl rfl rfl rfl tf_size_84 rfl rfl rfl ?_
    refine WL.nil ?_
    refine KX.go (hK_9' [(2, zP b_1')] _ ?_) ⟨rfl, trivial⟩
    refine wc_ret ?_
    exact hE.ret [0] rfl rfl (.inl ⟨_, _, _, h, rfl⟩) (ResV.of1 rfl (RV.row rfl (At.own 1 rfl) tf_row_84))
   ·rcases hS with ⟨r_1', at0, hc, ho⟩ | ⟨e, at0_1', hc, ho⟩ <;> cases ho
    replace h := h.2 e at0_1' hc
    exact hE.pan [0] rfl rfl (.inr ⟨_, _, _, h, rfl⟩)
  ·replace h := if_F h hb
   refine wc_skip ?_
   refine KX.go (hK_1' [(0, zP b), (2, zP b_1')] _ ?_) ⟨rfl, rfl, trivial⟩
   refine wc_seq (fun K0_10' hK_10' => ?_)
   refine wc_region ?_
   refine wv (OV.move rfl) ?_
   obtain ⟨o_5', h⟩ := h
   refine WL.pick (H' := [HA.blk b (.cells [st r_0, zI r_1].toArray 222 (0, 0)), HA.blk b_1' (.cells (wl cs0).toArray 84 (0, 0))]) [1, 0] rfl rfl ?_
   refine WL.callS tf_ent_175 rfl (one_does b te fre r_0 r_1 ([40, 41, 91, 93, 123, 125, 124, 38, 45, 42, 43, 63, 46, 92, 47, 94] : List UInt8) o_5') rfl ⟨.inr (List.mem_of_getElem? (i := 0) rfl), trivial⟩ rfl rfl (fun r H' hS => ?_) (fun c H' hS => ?_)
   ·rcases hS with ⟨r_2', at0_2', hc, ho⟩ | ⟨e_1', at0_3', hc, ho⟩ <;> cases ho
    replace h := h.1 r_2' at0_2' hc
    refine wv (OV.assign rfl) ?_
    refine WL.nil ?_
    refine KX.go (hK_10' [(2, zP b_1'), (4, zU r_2')] _ ?_) ⟨rfl, rfl, trivial⟩
    refine wc_seq (fun K0_11' hK_11' => ?_)
    refine wc_region ?_
    refine wv (OV.move rfl) ?_
    refine wv (OV.move rfl) ?_
    obtain ⟨o_6', h⟩ := h
    refine WL.call (A := []) tf_ent_176 rfl (span_does r_2' r_2' o_6') rfl trivial rfl rfl ?_
    refine WL.storeW (vs := wl (spanS (r_2').toNat (r_2').toNat)) 1 rfl rfl rfl rfl rfl tf_size_84 rfl rfl rfl ?_
    refine WL.nil ?_
    refine KX.go (hK_11' [(2, zP b_1')] _ ?_) ⟨rfl, trivial⟩
    refine wc_ret ?_
    exact hE.ret [0] rfl rfl (.inl ⟨_, _, _, h, rfl⟩) (ResV.of1 rfl (RV.row rfl (At.own 1 rfl) tf_row_84))
   ·rcases hS with ⟨r_2', at0_2', hc, ho⟩ | ⟨e_1', at0_3', hc, ho⟩ <;> cases ho
    replace h := h.2 e_1' at0_3' hc
    exact hE.pan [0] rfl rfl (.inr ⟨_, _, _, h, rfl⟩)

def itemM (t : List UInt8) (a : Int) : Except Int (CS × Int) :=
 if peekB t a = 46 then .ok (~~~ ofS [10], a + 1)
 else if peekB t a = 91 then memM t (a + 1)
 else match oneM t a spL with
  | .ok (b, q) => .ok (spanS b.toNat b.toNat, q)
  | .error e => .error e
theorem item_does (b : Nat) (te : TypeId) (fre : Nat × Nat) (t : List UInt8) (a : Int) (h : 0 ≤ a ∧ a < t.length ∧ t.length ≤ 9223372036854775807) : Does Tryd.prog 170 [.pointer (some ⟨b, 0, none⟩)] (escTab te fre) [rdBlk b t a] (RdOutS b t (itemM t a)) := by
 refine (item_wp b te fre t a (fun r t' q => t' = t ∧ itemM t a = .ok (r, q)) (fun v t' _ => t' = t ∧ ∃ e, itemM t a = .error e ∧ v = faultV 10 e) ?_).weak ?_
 ·have hp : peekB t a = ((t.getD a.toNat 0).toNat : Int) := by unfold peekB; rw [if_pos h.2.1]
  unfold item_vc
  rw [← hp]
  have hI : I64 (a + 1) := ⟨by omega, by omega⟩
  refine ⟨⟨h.1, h.2.1⟩, ?_⟩
  by_cases h1 : peekB t a = 46
  ·rw [if_pos (by simpa using h1)]
   exact ⟨hI, by decide, rfl, by unfold itemM; rw [if_pos h1]⟩
  ·rw [if_neg (by simpa using h1)]
   by_cases h2 : peekB t a = 91
   ·rw [if_pos (by simpa using h2)]
    have hM : itemM t a = memM t (a + 1) := by unfold itemM; rw [if_neg h1, if_pos h2]
    rw [hM]
    exact ⟨hI, ⟨by omega, by omega, h.2.2⟩, fun r q hr => ⟨rfl, hr⟩, fun e q he => ⟨rfl, e, he, rfl⟩⟩
   ·rw [if_neg (by simpa using h2)]
    refine ⟨⟨h.1, by omega, h.2.2⟩, fun r q hr => ?_, fun e q he => ?_⟩
    ·have b1 := oneM_ok hr
     refine ⟨⟨⟨b1.1, b1.2.1⟩, b1.1, b1.2.1⟩, rfl, ?_⟩
     unfold itemM; rw [if_neg h1, if_neg h2, show spL = [40, 41, 91, 93, 123, 125, 124, 38, 45, 42, 43, 63, 46, 92, 47, 94] from rfl, hr]
    ·refine ⟨rfl, e, ?_, rfl⟩
     unfold itemM; rw [if_neg h1, if_neg h2, show spL = [40, 41, 91, 93, 123, 125, 124, 38, 45, 42, 43, 63, 46, 92, 47, 94] from rfl, he]
 ·rintro o (⟨r, t', q, ⟨rfl, hm⟩, rfl⟩ | ⟨v, t', q, ⟨rfl, e, hm, rfl⟩, rfl⟩)
  ·exact .inl ⟨r, q, hm, rfl⟩
  ·exact .inr ⟨e, q, hm, rfl⟩

end Go.Proofs.YtohnchdnkbadaaaDoor
namespace Go.Proofs.YtohnchdnkbadaaaDoor
open Go Go.RowKit

variable {P : Program} {ops : Array Oper} {Q : Exit → Act → World → Prop} {C : Cx} {L : Sl} {H : List HA} {rest : List Oper} {o : Oper}

/-- What a deferred call does: met in the mode u, it leaves the mode u'. -/
def DoesD (P : Program) (f : FuncId) (args : List Value) (u u' : FrameMode) (R : List (Nat × Obj)) (A : List HA) (S : Out → Prop) : Prop :=
 ∀ w M, Own w A M → M.Nodup → (∀ k ∈ M, k < w.heap.size) → (∀ p ∈ R, w.heap[p.1]? = some p.2 ∧ p.1 ∉ M) → CallsD P f args.toArray u w (fun e u'' w' => u'' = u' ∧ ∃ H', OutR S e H' ∧ Hp ⟨0, [], w, M, R⟩ H' w')

/-- recover's answer and the mode behind it. -/
def Recovers (u : FrameMode) (v : Value) (u' : FrameMode) : Prop :=
 (u = .returning ∧ v = .nilIface ∧ u' = .returning) ∨ (∃ x, u = .panicking [{ v := x, recovered := false }] ∧ v = x ∧ u' = .panicking [{ v := x, recovered := true }])

theorem doesD_rec {f : FuncId} {fn : Func} {y : Code} {args : List Value} {R : List (Nat × Obj)} {A : List HA} {S : Out → Prop} {L0 : Sl} {n id d d2 : Nat} {ats : Array TypeId} {t1 t2 : TypeId} {p1 p2 : String} {e1 e2 : Array Edge} {u u' : FrameMode} {v : Value}
  (hf : P.funcs[f]? = some fn) (hb : fn.body = some (.seq (.region id [⟨some d, .call ⟨.builtin .recover, #[], ats⟩, t1, p1, e1, none⟩, ⟨some d2, .assign (.tmp d), t2, p2, e2, none⟩].toArray false) y)) (hnt : fn.ntmps = n) (hl : Nat.ble args.length n = true)
  (hL : (List.range args.length).zip args = L0) (hd : Nat.blt d n = true) (hd2 : Nat.blt d2 n = true) (hu : Recovers u v u')
  (h : ∀ w0 M Q, Ends P fn ⟨n, [], w0, M, R⟩ S Q → WC P y Q ⟨n, [], w0, M, R⟩ ((d2, v) :: (d, v) :: L0) A) : DoesD P f args u u' R A S := by
 intro w M hO hn hlt hR
 subst hnt
 have hle : args.length ≤ fn.ntmps := Nat.le_of_ble_eq_true hl
 refine callsD_of_wpS hf hb fun c₀ cs hc => ?_
 refine wpS_seq (wpS_region ?_)
 have hd' : d < fn.ntmps := Nat.blt_eq ▸ hd
 -- the frame at the start
 have hfr : Fr ⟨fn.ntmps, [], w, M, R⟩ L0 ⟨args.toArray ++ Array.replicate (fn.ntmps - args.toArray.size) undef, []⟩ := by
  refine ⟨rfl, by simp; omega, ?_⟩
  intro i x hg
  subst hL
  have hm := Sl.get_mem hg
  obtain ⟨j, hj⟩ := List.mem_iff_getElem?.1 hm
  rw [List.getElem?_zip_eq_some] at hj
  obtain ⟨h1, h2⟩ := hj
  have hij : j = i := by
   have h3 := (List.getElem?_eq_some_iff.1 h1)
   obtain ⟨h4, h5⟩ := h3
   simp at h5; exact h5
  subst hij
  have hjl : j < args.length := (List.getElem?_eq_some_iff.1 h2).1
  simp only [List.size_toArray]
  rw [Array.getElem?_append_left (by simpa using hjl)]
  simpa using h2
 generalize (⟨args.toArray ++ Array.replicate (fn.ntmps - args.toArray.size) undef, []⟩ : Act) = a0 at hfr ⊢
 have hfr2 := (hfr.put hd v).put hd2 v
 have hp := Hp.start fn.ntmps [] w hO hn hlt hR
 have hrun : (execOp a0.eval ⟨some d, .call ⟨.builtin .recover, #[], ats⟩, t1, p1, e1, none⟩).run P w = .ok .recover w := by
  simp [execOp, resolve, invoke, builtin]
 have hev : (a0.put (some d) v).eval (.tmp d) = v := (hfr.put hd v).ev (x := .tmp d) (by simp [ev, Sl.get])
 have hrun2 : (execOp (a0.put (some d) v).eval ⟨some d2, .assign (.tmp d), t2, p2, e2, none⟩).run P w = .ok (.value v) w := by
  simp only [execOp, hev, Sem.run_pure]
 have key : ∀ cs', (match recoverD (c₀ :: cs) with | some (x, c') => x = v ∧ c' = cs' | none => .nilIface = v ∧ (c₀ :: cs) = cs') → cs' = { c₀ with mode := u' } :: cs →
   wpOpsS P [⟨some d, .call ⟨.builtin .recover, #[], ats⟩, t1, p1, e1, none⟩, ⟨some d2, .assign (.tmp d), t2, p2, e2, none⟩].toArray (Exit.thenS (y.wpS P (bodyPostS P fn c₀ cs fun e u'' w' => u'' = u' ∧ ∃ H', OutR S e H' ∧ Hp ⟨0, [], w, M, R⟩ H' w')) (bodyPostS P fn c₀ cs fun e u'' w' => u'' = u' ∧ ∃ H', OutR S e H' ∧ Hp ⟨0, [], w, M, R⟩ H' w')) [0, 1] a0 (c₀ :: cs) w := by
  intro cs' hrec hcs'
  have hy : y.wpS P (bodyPostS P fn c₀ cs fun e u'' w' => u'' = u' ∧ ∃ H', OutR S e H' ∧ Hp ⟨0, [], w, M, R⟩ H' w') ((a0.put (some d) v).put (some d2) v) cs' w := by
   subst hcs'
   refine wpS_of_wp ?_
   refine h w M _ ?_ _ _ hfr2 hp
   refine ⟨fun idx hi he hS hr a w' hfr hp => ?_, fun idx hi he hS hr a w' hfr hp => ?_, fun idx hi he hS a w' hfr hp => ?_⟩
   ·exact ⟨hfr.defers, u', rfl, _, hr a w' hfr hp, rfl, _, .inl ⟨_, rfl, hS⟩, he ▸ (hp.pick idx hi).ctx⟩
   ·exact ⟨hfr.defers, u', rfl, _, hr a w' hfr hp, rfl, _, .inl ⟨_, rfl, hS⟩, he ▸ (hp.pick idx hi).ctx⟩
   ·exact ⟨hfr.defers, u', rfl, rfl, _, .inr ⟨_, rfl, hS⟩, he ▸ (hp.pick idx hi).ctx⟩
  have hy2 : wpOpsS P [⟨some d, .call ⟨.builtin .recover, #[], ats⟩, t1, p1, e1, none⟩, ⟨some d2, .assign (.tmp d), t2, p2, e2, none⟩].toArray (Exit.thenS (y.wpS P (bodyPostS P fn c₀ cs fun e u'' w' => u'' = u' ∧ ∃ H', OutR S e H' ∧ Hp ⟨0, [], w, M, R⟩ H' w')) (bodyPostS P fn c₀ cs fun e u'' w' => u'' = u' ∧ ∃ H', OutR S e H' ∧ Hp ⟨0, [], w, M, R⟩ H' w')) [1] (a0.put (some d) v) cs' w := by
   simp only [wpOpsS, List.getElem?_toArray, List.getElem?_cons_succ, List.getElem?_cons_zero, Region.wanted, if_true, hrun2, Oper.upon]
   exact hy
  unfold wpOpsS
  simp only [List.getElem?_toArray, List.getElem?_cons_zero, Region.wanted, if_true, hrun]
  cases hr : recoverD (c₀ :: cs) with
  | none => rw [hr] at hrec; obtain ⟨rfl, rfl⟩ := hrec; exact hy2
  | some q => rw [hr] at hrec; obtain ⟨x, c'⟩ := q; obtain ⟨rfl, rfl⟩ := hrec; exact hy2
 have hrange : List.range ([⟨some d, .call ⟨.builtin .recover, #[], ats⟩, t1, p1, e1, none⟩, ⟨some d2, .assign (.tmp d), t2, p2, e2, none⟩] : List Oper).toArray.size = [0, 1] := rfl
 rw [hrange]
 rcases hu with ⟨rfl, rfl, rfl⟩ | ⟨x, rfl, rfl, rfl⟩
 ·refine key _ ?_ rfl
  have : recoverD (c₀ :: cs) = none := by simp [recoverD, hc]
  rw [this]
  exact ⟨rfl, by cases c₀; simp_all⟩
 ·refine key _ ?_ rfl
  have : recoverD (c₀ :: cs) = some (v, { c₀ with mode := .panicking [{ v, recovered := true }] } :: cs) := by simp [recoverD, hc]
  rw [this]
  exact ⟨rfl, rfl⟩

/-! ### the function that defers -/
theorem wc_seqC {x y : Code} (h : ∀ K : Act → World → Prop, (∀ C L H, WC P y Q C L H → KX K C L H) → WC P x (Exit.then K Q) C L H) : WC P (.seq x y) Q C L H :=
 fun a w hf hp => wp_seq (h _ (fun _ _ _ hy => hy) a w hf hp)
theorem OV.makeFunc {f : FuncId} {xs : List Operand} {vs : List Value} {ty : TypeId} {d : Option Tmp} {p : String} {e : Array Edge} {g : Option (Nat × Bool)} (hx : evs L xs = some vs) : OV P C L H ⟨d, .makeFunc (.func f) #[] xs.toArray, ty, p, e, g⟩ (.func (.func f) #[] vs.toArray) := fun a w hf _ => by
 simp [execOp, Instr.makeFunc, evs_spec hf hx]
theorem WL.defer {x : Operand} {ats : Array TypeId} {ty : TypeId} {p : String} {e : Array Edge} {d : Option Tmp} {f : FuncId} {vs : List Value} (hx : ev L x = some (.func (.func f) #[] vs.toArray)) (hd : d = none)
  (h : WL P ops Q { C with D := ⟨.fn (.func f) vs.toArray, #[]⟩ :: C.D } L H rest) : WL P ops Q C L H (⟨d, .defer ⟨.value x, #[], ats⟩, ty, p, e, none⟩ :: rest) := by
 intro a w hf hp
 subst hd
 refine wpList_want' (by simp [Region.wanted]) ?_
 unfold Oper.wp
 have : (execOp a.eval ⟨none, .defer ⟨.value x, #[], ats⟩, ty, p, e, none⟩).run P w = .ok (.defer ⟨.fn (.func f) vs.toArray, #[]⟩) w := by
  simp [execOp, resolve, hf.ev hx, Deferred.ofValue]
 rw [this]
 simp only [Oper.upon, Act.put]
 exact h _ _ ⟨by simp [hf.defers], hf.size, hf.get⟩ hp.ctx
structure EndsD (P : Program) (fn : Func) (n : Nat) (w0 : World) (M : List Nat) (R : List (Nat × Obj)) (S : Out → Prop) (Q : Exit → Act → World → Prop) : Prop where
 ret : ∀ {D : List Deferred} {L : Sl} {H : List HA}, (∀ a w, Fr ⟨n, D, w0, M, R⟩ L a → Hp ⟨n, D, w0, M, R⟩ H w → Leaves P fn a.tmps (fun e w' => ∃ H', OutR S e H' ∧ Hp ⟨0, [], w0, M, R⟩ H' w') D .returning w) → QX Q .ret ⟨n, D, w0, M, R⟩ L H
 norm : ∀ {D : List Deferred} {L : Sl} {H : List HA}, (∀ a w, Fr ⟨n, D, w0, M, R⟩ L a → Hp ⟨n, D, w0, M, R⟩ H w → Leaves P fn a.tmps (fun e w' => ∃ H', OutR S e H' ∧ Hp ⟨0, [], w0, M, R⟩ H' w') D .returning w) → QX Q .normal ⟨n, D, w0, M, R⟩ L H
 pan : ∀ {D : List Deferred} {L : Sl} {H : List HA} {c : List PanicEntry}, (∀ a w, Fr ⟨n, D, w0, M, R⟩ L a → Hp ⟨n, D, w0, M, R⟩ H w → Leaves P fn a.tmps (fun e w' => ∃ H', OutR S e H' ∧ Hp ⟨0, [], w0, M, R⟩ H' w') D (.panicking c) w) → QX Q (.panic c) ⟨n, D, w0, M, R⟩ L H
theorem does_of_wcD {f : FuncId} {fn : Func} {c : Code} {args : List Value} {R : List (Nat × Obj)} {A : List HA} {S : Out → Prop} {L0 : Sl} {n : Nat} (hf : P.funcs[f]? = some fn) (hb : fn.body = some c) (hnt : fn.ntmps = n) (hl : Nat.ble args.length n = true)
  (hL : (List.range args.length).zip args = L0)
  (h : ∀ w0 M Q, EndsD P fn n w0 M R S Q → WC P c Q ⟨n, [], w0, M, R⟩ L0 A) : Does P f args R A S := by
 intro w M hO hn hlt hR
 subst hnt
 have hle : args.length ≤ fn.ntmps := Nat.le_of_ble_eq_true hl
 refine calls_of_wp_defers hf hb ?_
 refine h w M _ ?_ _ _ ⟨rfl, ?_, ?_⟩ (Hp.start _ _ w hO hn hlt hR)
 ·refine ⟨fun hh a w' hfr hp => ?_, fun hh a w' hfr hp => ?_, fun hh a w' hfr hp => ?_⟩
  all_goals
   have := hh a w' hfr hp
   have hd := hfr.defers
   simp only at hd
   rw [← hd] at this
   exact this
 ·simp; omega
 ·intro i v hg
  subst hL
  have hm := Sl.get_mem hg
  obtain ⟨j, hj⟩ := List.mem_iff_getElem?.1 hm
  rw [List.getElem?_zip_eq_some] at hj
  obtain ⟨h1, h2⟩ := hj
  have hij : j = i := by
   have h3 := (List.getElem?_eq_some_iff.1 h1)
   obtain ⟨h4, h5⟩ := h3
   simp at h5; exact h5
  subst hij
  have hjl : j < args.length := (List.getElem?_eq_some_iff.1 h2).1
  simp only [List.size_toArray]
  rw [Array.getElem?_append_left (by simpa using hjl)]
  simpa using h2
/-- Left with nothing deferred. -/
theorem leaves0 {fn : Func} {n : Nat} {w0 : World} {M : List Nat} {R : List (Nat × Obj)} {S : Out → Prop} {H' : List HA} {v : Value} (idx : List Nat) (hi : nodupB idx = true) (he : sel H idx = H') (hS : S (.ret v H')) (hr : ResV P fn ⟨n, [], w0, M, R⟩ L H v) :
  ∀ a w, Fr ⟨n, [], w0, M, R⟩ L a → Hp ⟨n, [], w0, M, R⟩ H w → Leaves P fn a.tmps (fun e w' => ∃ H', OutR S e H' ∧ Hp ⟨0, [], w0, M, R⟩ H' w') [] .returning w :=
 fun a w hf hp => ⟨v, hr a w hf hp, _, .inl ⟨_, rfl, hS⟩, he ▸ (hp.pick idx hi).ctx⟩
/-- Left with one closure deferred, which returns and leaves nothing of a panic. -/
theorem leaves1 {fn : Func} {n : Nat} {w0 : World} {M : List Nat} {R R' : List (Nat × Obj)} {S : Out → Prop} {H' A A' Rest : List HA} {v vc : Value} {f : FuncId} {vs : List Value} {u u' : FrameMode} {H : List HA} (idx0 : List Nat) (hi0 : nodupB idx0 = true) (hH : sel H idx0 = A ++ Rest)
  (hent : entB P f = true) (hc : DoesD P f vs u u' R' A (Ret vc A')) (hrun : u ≠ .run) (hset : settle u' = .returning) (hR : ROk ⟨n, [⟨.fn (.func f) vs.toArray, #[]⟩], w0, M, R⟩ Rest R')
  (idx : List Nat) (hi : nodupB idx = true) (he : sel (A' ++ Rest) idx = H') (hS : S (.ret v H')) (hr : ResV P fn ⟨n, [⟨.fn (.func f) vs.toArray, #[]⟩], w0, M, R⟩ L (A' ++ Rest) v) :
  ∀ a w, Fr ⟨n, [⟨.fn (.func f) vs.toArray, #[]⟩], w0, M, R⟩ L a → Hp ⟨n, [⟨.fn (.func f) vs.toArray, #[]⟩], w0, M, R⟩ H w → Leaves P fn a.tmps (fun e w' => ∃ H', OutR S e H' ∧ Hp ⟨0, [], w0, M, R⟩ H' w') [⟨.fn (.func f) vs.toArray, #[]⟩] u w := by
 intro a w hf hp
 have hp := hH ▸ hp.pick idx0 hi0
 refine ⟨hrun, .func f, vs.toArray, f, vs.toArray, rfl, by simp [invoke, run_enter hent], ?_⟩
 obtain ⟨F, h1, h2, h3⟩ := hp.own
 obtain ⟨F1, F2, rfl, hA, hB⟩ := h1.split
 have hnd := List.nodup_append.1 h2
 refine (hc w F1 hA hnd.1 (fun k hk => (h3 k (List.mem_append.2 (.inl hk))).1) ?_).mono ?_
 ·intro q hq
  rcases hR.all q hq with ⟨i, hi⟩ | hm
  ·refine ⟨hp.blk (i := A.length + i) (by rw [List.getElem?_append_right (by omega)]; simpa using hi), fun hm => ?_⟩
   exact hnd.2.2 q.1 hm q.1 (hB.mem_blk hi) rfl
  ·refine ⟨hp.old hm, fun hk => ?_⟩
   have hro := hp.ro q hm
   have hlt := lt_of_blk hro.1
   rcases (h3 q.1 (List.mem_append.2 (.inl hk))).2 with h4 | h4
   ·omega
   ·exact hro.2 h4
 ·rintro en u'' w' ⟨rfl, H'', hS', hh⟩
  rcases hS' with ⟨r, rfl, hS'⟩ | ⟨c, rfl, hS'⟩
  ·cases hS'
   have hp' := hp.call hB h2 h3 hh
   show Leaves P fn a.tmps _ [] (settle u'') w'
   rw [hset]
   exact ⟨v, hr a w' hf hp', _, .inl ⟨_, rfl, hS⟩, he ▸ (hp'.pick idx hi).ctx⟩
  ·cases hS'
theorem OV.assertIs {x : Operand} {t t' ty : TypeId} {d : Option Tmp} {p : String} {e : Array Edge} {g : Option (Nat × Bool)} {v : Value} {dd : TypeDesc} (hx : ev L x = some (.iface t' v)) (hu : P.underlying t' = some dd) (hn : (match dd with | .interface _ => false | _ => true) = true) : OV P C L H ⟨d, .typeAssert x t t' false, ty, p, e, g⟩ v := fun a w hf _ => by
 have : (Instr.typeAssert (.iface t' v) t t' false).run P w = .ok v w := by
  unfold Instr.typeAssert
  rw [Sem.run_bind, run_under hu]
  cases dd <;> simp_all
 simp [execOp, hf.ev hx, this]
theorem OV.neqNil {x y : Operand} {t t' ty tv : TypeId} {d : Option Tmp} {p : String} {e : Array Edge} {g : Option (Nat × Bool)} {v : Value} {ms : Array (String × TypeId)} (hx : ev L x = some (.iface tv v)) (hy : ev L y = some .nilIface) (hu : P.underlying t = some (.interface ms)) : OV P C L H ⟨d, .binOp .neq t x y t', ty, p, e, g⟩ (.bool true) := fun a w hf _ => by
 have h : binOp .neq t (.iface tv v) .nilIface = (do pure (.bool (!(← Op.equal t (.iface tv v) .nilIface)))) := rfl
 have h2 : (Op.equal t (.iface tv v) .nilIface).run P w = .ok false w := by
  unfold Op.equal Op.maxDepth Op.equalIn
  rw [Sem.run_bind, run_under hu]; rfl
 simp only [execOp, hf.ev hx, hf.ev hy, eqGuard_at_iface, h, Sem.run_bind, Sem.run_pure, Result.andThen_ok, h2]
 rfl
theorem OV.neqNil0 {x : Operand} {t t' ty : TypeId} {d : Option Tmp} {p : String} {e : Array Edge} {g : Option (Nat × Bool)} {ms : Array (String × TypeId)} (hx : ev L x = some .nilIface) (hu : P.underlying t = some (.interface ms)) : OV P C L H ⟨d, .binOp .neq t x (.const .nilIface) t', ty, p, e, g⟩ (.bool false) := fun a w hf _ => by
 have h : binOp .neq t .nilIface .nilIface = (do pure (.bool (!(← Op.equal t .nilIface .nilIface)))) := rfl
 have h2 : (Op.equal t .nilIface .nilIface).run P w = .ok true w := by
  unfold Op.equal Op.maxDepth Op.equalIn
  rw [Sem.run_bind, run_under hu]; rfl
 have hc : a.eval (.const .nilIface) = .nilIface := rfl
 simp only [execOp, hf.ev hx, hc, eqGuard_nil_constR, h, Sem.run_bind, Sem.run_pure, Result.andThen_ok, h2]
 rfl
theorem DoesD.weak {f : FuncId} {args : List Value} {u u' : FrameMode} {R : List (Nat × Obj)} {A : List HA} {S S' : Out → Prop} (h : DoesD P f args u u' R A S) (hs : ∀ o, S o → S' o) : DoesD P f args u u' R A S' := fun w M hO hn hl hr => (h w M hO hn hl hr).mono fun en u'' w' ⟨hu, H', hS, hh⟩ => ⟨hu, H', by
  rcases hS with ⟨r, e1, hS⟩ | ⟨c, e1, hS⟩
  ·exact .inl ⟨r, e1, hs _ hS⟩
  ·exact .inr ⟨c, e1, hs _ hS⟩, hh⟩
end Go.Proofs.YtohnchdnkbadaaaDoor
