/-
  Merged: Gwv, Gwy, Gwz, Show, RefA, ClassD, RdV, RdM, RdV2.
-/
import Derived.Test.YtohnchdnkbadaaaDoorChecked
import Derived.Test.YtohnchdnkbadaaaDoorPb1
namespace Go.Proofs.YtohnchdnkbadaaaDoor
open Go Go.RowKit

variable {P : Program} {ops : Array Oper} {Q : Exit → Act → World → Prop} {C : Cx} {L : Sl} {H : List HA} {rest : List Oper} {o : Oper} {B : List (Nat × Obj)} {v u : Value} {vs : List Value} {d : Nat}

/-- What stands in all such worlds. -/
def Rd (C : Cx) (H : List HA) (R : List (Nat × Obj)) : Prop := ∀ p ∈ R, ∀ w, Hp C H w → w.heap[p.1]? = some p.2
theorem Rd.nil : Rd C H [] := fun p hp => by cases hp
theorem Rd.pool (i : Nat) (hi : H[i]? = some (pool B)) : Rd C H B := fun p hp w h => by
 obtain ⟨F, h1, _⟩ := h.own
 exact (h1.mem_pool hi p hp).1
theorem Rd.old : Rd C H C.R := fun _ hp _ h => h.old hp
/-- The operation calls something that answers v and leaves what it reads. -/
def CV (P : Program) (C : Cx) (L : Sl) (H : List HA) (o : Oper) (v : Value) : Prop := ∃ f vs R, EN P C L H o f vs ∧ Does P f vs R [] (Ret v []) ∧ Rd C H R
theorem WL.cv (hC : CV P C L H o v) (hd : o.dst = some d) (hw : wantB ops L o = some true) (hn : Nat.blt d C.n = true)
  (h : WL P ops Q C ((d, v) :: L) H rest) : WL P ops Q C L H (o :: rest) := by
 intro a w hf hp
 obtain ⟨f, vs, R, hE, hc, hR⟩ := hC
 refine wpList_want' (wanted_of hf hw) ?_
 unfold Oper.wp
 rw [hE a w hf hp]
 simp only [Oper.upon]
 refine (hc w [] rfl List.nodup_nil (fun k hk => by cases hk) (fun q hq => ⟨hR q hq w hp, by simp⟩)).mono ?_
 rintro en w' ⟨H', hS, hh⟩
 rcases hS with ⟨r, rfl, hS⟩ | ⟨c, rfl, hS⟩
 ·cases hS
  rw [hd]
  exact h _ _ (hf.put hn v) (hp.below hh.toBelow)
 ·cases hS
theorem FL.cv {T : World → Blocks → Act → Prop} {L : FSl} {zl : List (Nat × Obj)} {k : Nat} (hC : ∀ β, CV P C (L β) H o v) (hd : o.dst = some d)
  (hz : zget zl k = none) (hw : ∀ β, wantB ops (L β) o = some true) (hn : Nat.blt d C.n = true)
  (h : FL P ops T C (fun β => (d, v) :: L β) H zl (k + 1) rest) : FL P ops T C L H zl k (o :: rest) := by
 intro A w0 hf hp
 refine ⟨fun _ => v, .inr ⟨hz, v, rfl, fun β => .inl ⟨wanted_of (hf β) (hw β), fun w hb => ?_⟩⟩, ?_⟩
 ·have hpw := hp.below hb
  obtain ⟨f, vs, R, hE, hc, hR⟩ := hC β
  rw [hE _ w (hf β) hpw]
  refine (hc w [] rfl List.nodup_nil (fun k hk => by cases hk) (fun q hq => ⟨hR q hq w hpw, by simp⟩)).mono ?_
  rintro en w' ⟨H', hS, hh⟩
  rcases hS with ⟨r, rfl, hS⟩ | ⟨c, rfl, hS⟩
  ·cases hS; exact ⟨rfl, hh.toBelow⟩
  ·cases hS
 ·rw [hd]; exact h _ w0 (fun β => (hf β).put hn v) hp
/-- Called with such arguments, the function value answers v; B: what it reads. -/
def DoesV (P : Program) (B : List (Nat × Obj)) (u : Value) (args : List Value) (v : Value) : Prop := ∃ f caps, u = .func (.func f) #[] (List.toArray caps) ∧ entB P f = true ∧ Does P f (args ++ caps) B [] (Ret v [])
/-- Asked for such a method, the value answers v. -/
def DoesM (P : Program) (u : Value) (name : String) (args : List Value) (v : Value) : Prop := ∃ f T r, u = .iface T r ∧ methB P T name = some f ∧ plainB P T = true ∧ entB P f = true ∧ Does P f (r :: args) [] [] (Ret v [])
section cv
variable {x : Operand} {xs : List Operand} {ats : Array TypeId} {ty : TypeId} {p : String} {e : Array Edge} {g : Option (Nat × Bool)} {name : String} {do_ : Option Tmp}
theorem CV.value (hx : ev L x = some u) (hV : DoesV P B u vs v) (hxs : evs L xs = some vs) (hR : Rd C H B) : CV P C L H ⟨do_, .call ⟨.value x, xs.toArray, ats⟩, ty, p, e, g⟩ v := by
 obtain ⟨f, caps, rfl, he, hc⟩ := hV
 exact ⟨f, vs ++ caps, B, EN.value hx he hxs, hc, hR⟩
theorem CV.meth (hx : ev L x = some u) (hM : DoesM P u name vs v) (hxs : evs L xs = some vs) : CV P C L H ⟨do_, .call ⟨.invoke x name, xs.toArray, ats⟩, ty, p, e, g⟩ v := by
 obtain ⟨f, T, r, rfl, hm, hp, he, hc⟩ := hM
 exact ⟨f, r :: vs, [], EN.invoke hx hm hp he hxs, hc, Rd.nil⟩
end cv
theorem Does.more {f : FuncId} {R R' : List (Nat × Obj)} {A : List HA} {S : Out → Prop} (h : Does P f vs R A S) (hs : ∀ p ∈ R, p ∈ R') : Does P f vs R' A S := fun w M hO hn hl hr =>
 (h w M hO hn hl fun p hp => hr p (hs p hp)).mono fun _ _ ⟨H', hS, hh⟩ => ⟨H', hS, ⟨hh.os, hh.tape, hh.output, hh.size, hh.keep, hr, hh.own⟩⟩
theorem DoesV.more {B' : List (Nat × Obj)} (h : DoesV P B u vs v) (hs : ∀ p ∈ B, p ∈ B') : DoesV P B' u vs v := by
 obtain ⟨f, caps, h1, h2, h3⟩ := h
 exact ⟨f, caps, h1, h2, h3.more hs⟩
theorem DoesV.func {f : FuncId} {caps : List Value} (he : entB P f = true) (h : Does P f (vs ++ caps) B [] (Ret v [])) : DoesV P B (.func (.func f) #[] caps.toArray) vs v := ⟨f, caps, rfl, he, h⟩
end Go.Proofs.YtohnchdnkbadaaaDoor
namespace Go.Proofs.YtohnchdnkbadaaaDoor
open Go Go.RowKit

variable {P : Program} {ops : Array Oper} {Q : Exit → Act → World → Prop} {C : Cx} {L : Sl} {H HK : List HA} {rest : List Oper} {o : Oper} {d : Nat}

/-- The operation gives a value and leaves such memory. -/
def ValX (P : Program) (C : Cx) (L : Sl) (H : List HA) (o : Oper) (Φ : Value → List HA → Prop) : Prop := ∀ a w, Fr C L a → Hp C H w → ∃ v w' H', (execOp a.eval o).run P w = .ok (.value v) w' ∧ Φ v H' ∧ Hp C H' w'
theorem WLX.valX {Φ : Value → List HA → Prop} (hv : ValX P C L H o Φ) (idx : List Nat) (hi : nodupB idx = true) (hk : ∀ v H', Φ v H' → sel H' idx = HK) (hd : o.dst = some d) (hw : wantB ops L o = some true) (hn : Nat.blt d C.n = true)
  (h : ∀ v H', Φ v H' → WLX P ops Q C HK ((d, v) :: L) H' rest) : WLX P ops Q C HK L H (o :: rest) := by
 intro a w hf hp
 obtain ⟨v, w', H', hr, hΦ, hp'⟩ := hv a w hf hp
 refine ⟨wanted_of hf hw, ?_⟩
 unfold Oper.wp
 rw [hr]
 simp only [Oper.upon, hd]
 exact ⟨fun _ => hk v H' hΦ ▸ hp'.pick idx hi, h v H' hΦ _ _ (hf.put hn v) hp'⟩
theorem WLX.make {Z : Obj} {f : Nat → Value} (hv : MV P C L H o Z f) (idx : List Nat) (hi : nodupB idx = true) (hk : ∀ b, sel (.blk b Z :: H) idx = HK) (hd : o.dst = some d) (hw : wantB ops L o = some true) (hn : Nat.blt d C.n = true)
  (h : ∀ b, WLX P ops Q C HK ((d, f b) :: L) (.blk b Z :: H) rest) : WLX P ops Q C HK L H (o :: rest) :=
 WLX.valX (Φ := fun v H' => ∃ b, v = f b ∧ H' = .blk b Z :: H) (fun a w hf hp => ⟨_, _, _, hv a w hf hp, ⟨_, rfl, rfl⟩, hp.alloc Z⟩) idx hi (fun _ _ ⟨b, _, e⟩ => e ▸ hk b) hd hw hn (fun _ _ ⟨b, e1, e2⟩ => by subst e1; subst e2; exact h b)
section ap
variable {α : Type} {f : α → List Value} {sz : Nat} {v : Value} {l ms : List α} {s x : Operand} {t e' T ty : TypeId} {p : String} {e : Array Edge} {cs zs : List Value} {bytes : Nat}
theorem append_valX (i j : Nat) {b : Nat} {m c : Nat} (hs : ev L s = some v) (hx : ev L x = some (.slice (some ⟨b, 0, none⟩) m c)) (hi : H[i]? = some (.row v e' sz l.length (l.flatMap f))) (hj : H[j]? = some (.blk b (.cells cs.toArray T (0, 0)))) (hc : cs = ms.flatMap f) (hm : ms.length = m)
  (hf' : ∀ x, (f x).length = sz) (h0 : 0 < sz) (h1 : cs.all (·.oneCell') = true) (ht : slB P t e' sz = true) (hinf : infoB P e' = some (zs, sz, bytes)) (hzs : zs.length = sz) (hb : ((l.length + m) + (l.length + m) / 4 + 192) * bytes ≤ 281474976710656 ∧ l.length + m ≤ 9223372036854775807) :
  ValX P C L H ⟨some d, .call ⟨.builtin .append, #[s, x], #[t, t]⟩, ty, p, e, none⟩ (fun v' H' => H' = H.set i (.row v' e' sz (l ++ ms).length ((l ++ ms).flatMap f))) := by
 intro a w hf hp
 obtain ⟨inf, z, q1, q2, q3, q4, q5⟩ := infoB_spec hinf
 have hblk := hp.blk hj
 subst hm
 have hlen : cs.length = ms.length * sz := by rw [hc, flat_len hf']
 have hnews : ∀ q u, cs[q]? = some u → w.cell? ((⟨b, 0, none⟩ : Addr).add q) = some u := fun q u hq => by
  rw [Addr.add_mid, Nat.zero_add]; simp [World.cell?, hblk, hq]
 have hone : ∀ u ∈ cs, u.oneCell' = true := fun u hu => (List.all_eq_true.1 h1) u hu
 obtain ⟨v', w', hr, r1, r2, _⟩ := run_append_own_wide (P := P) w 0 t ty e' inf z sz bytes (slB_spec ht).1 q1 q2 q4 q5 (by rw [q3]; simpa using hzs) h0 v l.length (l.flatMap f) (hp.row hi) ⟨b, 0, none⟩ ms.length c cs hlen hnews hone (by simp only [maxLen]; omega) hb.1 (Nat.zero_le _)
 refine ⟨v', w', _, ?_, rfl, hp.swap hi r2.os r2.tape r2.output r2.size (fun F hF k hk hkF => r2.block k hk (fun e => hkF (by rw [hF.1, ← e]; simp))) (fun F hF _ => ⟨v'.ownBlock.toList, ⟨rfl, by rw [List.length_append, List.flatMap_append, ← hc]; exact r1⟩, by cases v'.ownBlock <;> simp, fun k hk => ?_⟩)⟩
 ·unfold execOp
  simp only [resolve, invoke, builtin, Sem.run_bind, Sem.run_pure, Result.andThen_ok, List.map_toArray, List.map_cons, List.map_nil, hf.ev hs, hf.ev hx, hr]
 ·have hk' : v'.ownBlock = some k := by simpa using hk
  refine ⟨?_, (r1.lt k hk').2⟩
  rcases append_in (slB_spec ht).1 q1 q2 q4 q5 (hp.row hi) hlen hnews hone hb.2 hb.1 hr hk' with h4 | h4
  ·exact .inl (by rw [hF.1, h4]; simp)
  ·exact .inr h4
end ap
theorem OpK.storeSl {x y : Operand} {t ty T T' : TypeId} {p : String} {e : Array Edge} {g : Option (Nat × Bool)} {b off sz n : Nat} {v : Value} {xs cs cs' : List Value} (i k : Nat)
  (hx : ev L x = some (.pointer (some ⟨b, off, none⟩))) (hy : ev L y = some v) (hi : H[i]? = some (.blk b (.cells cs.toArray T (0, 0)))) (hk : H[k]? = some (.row v T' sz n xs)) (hs : sizeB P t 1 = true)
  (hfit : off + 1 ≤ cs.length) (he : cs.take off ++ [v] ++ cs.drop (off + 1) = cs') : OpK P ⟨none, .store t x y, ty, p, e, g⟩ Q C L H L (H.set i (.blk b (.cells cs'.toArray T (0, 0)))) := by
 intro K hK a w hf hp
 rcases (hp.row hk).2 with ⟨rfl, _⟩ | ⟨_, _, _, rfl, _⟩
 ·exact OpK.store (vs := [_]) i hx hy hi rfl hs hfit rfl he K hK a w hf hp
 ·exact OpK.store (vs := [_]) i hx hy hi rfl hs hfit rfl he K hK a w hf hp
/-- An owned slice, shorter. -/
theorem HA.shorter {w : World} {v : Value} {T sz m : Nat} {α : Type} {f : α → List Value} {l : List α} {F : List Nat} (hf' : ∀ x, (f x).length = sz) (hm : m ≤ l.length) (h : HA.at w (.row v T sz l.length (l.flatMap f)) F) : HA.at w (.row (slTo v m) T sz (l.take m).length ((l.take m).flatMap f)) F := by
 obtain ⟨rfl, hl, hr⟩ := h
 have hlen : (l.take m).length = m := by simp; omega
 rcases hr with ⟨rfl, h0⟩ | ⟨g, cap, cur, rfl, hg, hb, hn, hcm, hcs, htk⟩
 ·have : m = 0 := by omega
  subst this
  refine ⟨rfl, ?_, .inl ⟨rfl, hlen⟩⟩
  simp
 ·refine ⟨rfl, flat_len hf' _, .inr ⟨g, cap, cur, by rw [hlen]; rfl, hg, hb, by omega, hcm, hcs, ?_⟩⟩
  rw [hlen]
  have h2 : l.flatMap f = (l.take m).flatMap f ++ (l.drop m).flatMap f := by rw [← List.flatMap_append, List.take_append_drop]
  have h3 : cur.toList.take (m * sz) = (cur.toList.take (l.length * sz)).take (m * sz) := by
   rw [List.take_take, Nat.min_eq_left (Nat.mul_le_mul_right _ hm)]
  rw [h3, htk, h2, List.take_left' (by rw [flat_len hf', hlen])]
theorem Hp.shorter {w : World} {v : Value} {T sz m : Nat} {α : Type} {f : α → List Value} {l : List α} (i : Nat) (hi : H[i]? = some (.row v T sz l.length (l.flatMap f))) (hf' : ∀ x, (f x).length = sz) (hm : m ≤ l.length) (h : Hp C H w) : Hp C (H.set i (.row (slTo v m) T sz (l.take m).length ((l.take m).flatMap f))) w :=
 h.swap hi rfl rfl rfl (Nat.le_refl _) (fun _ _ _ _ _ => rfl) (fun F hF hn => ⟨F, HA.shorter hf' hm hF, hn, fun k hk => ⟨.inl hk, by
  obtain ⟨F0, h1, _, h3⟩ := h.own
  have h4 := (h1.mem_row hi).2 k (by have := hF.1; rw [this] at hk; simpa using hk)
  exact (h3 k h4).1⟩⟩)
theorem WL.shorter {v : Value} {T sz m : Nat} {α : Type} {f : α → List Value} {l : List α} {r : List Oper} (i : Nat) (hi : H[i]? = some (.row v T sz l.length (l.flatMap f))) (hf' : ∀ x, (f x).length = sz) (hm : m ≤ l.length)
  (h : WL P ops Q C L (H.set i (.row (slTo v m) T sz (l.take m).length ((l.take m).flatMap f))) r) : WL P ops Q C L H r := fun a w hf hp => h a w hf (hp.shorter i hi hf' hm)
theorem one_nil : ([] : List Value).all (·.oneCell') = true := rfl
theorem one_cons {u : Value} {vs : List Value} (h : u.oneCell' = true) (h' : vs.all (·.oneCell') = true) : (u :: vs).all (·.oneCell') = true := by rw [List.all_cons, h, h']; rfl
theorem cells_one {u : Value} (h : u.oneCell' = true) : u.cells = [u].toArray := by cases u <;> first | rfl | (cases h; done)
/-- A struct or an array out of parts whose cells are told. -/
def fillC (place : Nat → Option (Nat × Nat)) (cells : Array Value) : List (Nat × List Value) → Option (Array Value)
 | [] => some cells
 | (i, v) :: rest =>
  match place i with
  | none => none
  | some (off, size) => if v.length ≠ size || off + v.length > cells.size then none else fillC place (v.toArray.zipIdx.foldl (fun cs (c, j) => cs.setIfInBounds (off + j) c) cells) rest
def CellsAre : List (Nat × Value) → List (Nat × List Value) → Prop
 | [], [] => True
 | p :: r, q :: s => p.1 = q.1 ∧ p.2.cells = q.2.toArray ∧ CellsAre r s
 | _, _ => False
theorem fill_of_fillC {place : Nat → Option (Nat × Nat)} : ∀ {ps : List (Nat × Value)} {qs : List (Nat × List Value)} (cells : Array Value), CellsAre ps qs → Instr.fill place cells ps = fillC place cells qs
 | [], [], _, _ => rfl
 | (i, v) :: ps, (j, l) :: qs, cells, h => by
  obtain ⟨h1, h2, h3⟩ := h
  simp only at h1 h2
  subst h1
  unfold Instr.fill fillC
  cases hp : place i with
  | none => rfl
  | some q =>
   obtain ⟨off, size⟩ := q
   simp only [h2, List.size_toArray, fill_of_fillC _ h3]
 | [], _ :: _, _, h => h.elim
 | _ :: _, [], _, h => h.elim
def builtC (P : Program) (t : TypeId) (parts : List (Nat × List Value)) : Option (Array Value) :=
 match P.info? t, P.underlying t with
 | some it, some (.array _ e) =>
  match it.zero, P.info? e with
  | some z, some ie => fillC (fun i => some (i * ie.size, ie.size)) z.cells parts
  | _, _ => none
 | some it, some (.struct fields) =>
  match it.zero, fields.toList.mapM (fun f => (P.info? f.type).map fun i => (f.offset, i.size)) with
  | some z, some places => fillC (places.toArray[·]?) z.cells parts
  | _, _ => none
 | _, _ => none
theorem OV.buildC {t ty : TypeId} {d : Option Tmp} {p : String} {e : Array Edge} {g : Option (Nat × Bool)} {ps : List (Nat × Operand)} {vs : List (Nat × Value)} {qs : List (Nat × List Value)} {cs : List Value} (hx : evp L ps = some vs) (hc : CellsAre vs qs) (hb : builtC P t qs = some cs.toArray) : OV P C L H ⟨d, .build t ps.toArray, ty, p, e, g⟩ (.agg cs.toArray) := by
 refine OV.build hx ?_
 have h1 : ∀ place cells, Instr.fill place cells vs = fillC place cells qs := fun _ cells => fill_of_fillC cells hc
 rw [← hb]
 simp only [Program.built, builtC, h1]
 rfl
theorem LIn.one {v : Value} {n : Nat} {xs : List Value} (h : LIn C v n xs) : v.oneCell' = true := by
 obtain ⟨R, h1, _⟩ := h
 rcases h1 with ⟨_, _, ⟨_, _, rfl⟩, _⟩ | ⟨_, _, _, _, _, _, rfl, _⟩ <;> rfl
/-- A new pool, to begin with. -/
theorem Hp.newPool {w : World} (h : Hp C H w) : Hp C (pool [] :: H) w := by
 obtain ⟨F, h1, h2⟩ := h.own
 exact ⟨h.os, h.tape, h.output, h.size, h.keep, h.ro, F, ⟨[], F, rfl, ⟨rfl, fun p hp => by cases hp⟩, h1⟩, h2⟩
end Go.Proofs.YtohnchdnkbadaaaDoor
namespace Go.Proofs.YtohnchdnkbadaaaDoor
open Go Go.RowKit

variable {P : Program} {Q : Exit → Act → World → Prop} {C : Cx} {L : Sl} {H : List HA}
section st
variable {x y : Operand} {t ty T : TypeId} {p : String} {e : Array Edge} {g : Option (Nat × Bool)} {v u : Value} {sz : Nat} {α : Type} [Inhabited α] {f : α → List Value} {l : List α}
end st
theorem CV.fn {f : FuncId} {xs : List Operand} {ats : Array TypeId} {d : Option Tmp} {ty : TypeId} {p : String} {e : Array Edge} {g : Option (Nat × Bool)} {vs : List Value} {R : List (Nat × Obj)} {v : Value} (he : entB P f = true) (hx : evs L xs = some vs) (hc : Does P f vs R [] (Ret v [])) (hR : Rd C H R) :
  CV P C L H ⟨d, .call ⟨.value (.func f), xs.toArray, ats⟩, ty, p, e, g⟩ v := ⟨f, vs, R, EN.fn he hx, hc, hR⟩
theorem Does.one {P : Program} {f : FuncId} {args : List Value} {R : List (Nat × Obj)} {α : Type} {e : α → Value} {c : α} (h : Does P f args R [] (fun o => (∃ v, v = c ∧ o = .ret (e v) []) ∨ False)) : Does P f args R [] (Ret (e c) []) := h.weak (by
 rintro o (⟨v, rfl, rfl⟩ | h)
 ·rfl
 ·exact h.elim)
end Go.Proofs.YtohnchdnkbadaaaDoor
namespace Go.Proofs.YtohnchdnkbadaaaDoor
open Go Go.RowKit

set_option maxRecDepth 100000 in
theorem wpList_get_row_g {ops : Array Oper} {rest : List Oper} {a : Act} {w : World} {Q : Exit → Act → World → Prop} {d : Tmp} {ty t1 : TypeId} {x : Operand} {p1 : String} {e1 : Array Edge} {gd : Option (Nat × Bool)}
  (g : Nat) (t : TypeId) {cs : Array Value} {fr : Nat × Nat} (hg : w.heap[g]? = some (.cells cs t fr)) (ht : RowT Tryd.prog ty cs.size)
  (hw : Region.wanted ⟨some d, .load ty x, t1, p1, e1, gd⟩ (yielded ops a.tmps) = true)
  (hx : a.eval x = .pointer (some ⟨g, 0, none⟩)) (h : wpList Tryd.prog ops Q rest (a.put (some d) (.agg cs)) w) :
  wpList Tryd.prog ops Q (⟨some d, .load ty x, t1, p1, e1, gd⟩ :: rest) a w := by
 simp only [wpList, hw, if_true]
 left
 rcases ht.desc with ⟨fs, hu⟩ | ⟨n, e, hu⟩
 ·exact wp_load_row ty x rfl g hx t cs fr _ hg hu rfl ht.size h
 ·exact wp_load_row ty x rfl g hx t cs fr _ hg hu rfl ht.size h

def spB : ByteArray := ⟨#[40, 41, 91, 93, 123, 125, 124, 38, 45, 42, 43, 63, 46, 92, 47, 94]⟩
def inB : ByteArray := ⟨#[92, 93, 91, 45, 94, 47]⟩
def spL : List UInt8 := [40, 41, 91, 93, 123, 125, 124, 38, 45, 42, 43, 63, 46, 92, 47, 94]
def inL : List UInt8 := [92, 93, 91, 45, 94, 47]

set_option maxRecDepth 100000 in
theorem singleL_len (b : Nat) (l : List UInt8) : (singleL b l).length ≤ 4 := by
 unfold singleL
 cases escOf b with
 | some c => simp
 | none =>
  simp only
  by_cases h : b < 32 ∨ 126 < b
  ·rw [if_pos h]; simp
  ·rw [if_neg h]; cases l.contains b.toUInt8 <;> simp

/-- Where the run that begins at a byte ends. -/
def runEnd (s : CS) : Nat → Nat → Nat
 | 0, e => e
 | n + 1, e => if e < 255 ∧ s.getLsbD (e + 1) = true then runEnd s n (e + 1) else e
def runEndS (s : CS) (b : Nat) : Nat := runEnd s 256 b
set_option maxRecDepth 100000 in
theorem runEnd_spec (s : CS) : ∀ (n e : Nat), e ≤ 255 → 255 ≤ e + n → e ≤ runEnd s n e ∧ runEnd s n e ≤ 255 ∧ (∀ i, e < i → i ≤ runEnd s n e → s.getLsbD i = true) ∧ (runEnd s n e < 255 → s.getLsbD (runEnd s n e + 1) = false)
 | 0, e, h, hn => ⟨Nat.le_refl _, h, fun i h1 h2 => by simp only [runEnd] at h2; omega, fun h1 => by simp only [runEnd] at h1; omega⟩
 | n + 1, e, h, hn => by
  simp only [runEnd]
  by_cases hc : e < 255 ∧ s.getLsbD (e + 1) = true
  ·rw [if_pos hc]
   obtain ⟨h1, h2, h3, h4⟩ := runEnd_spec s n (e + 1) (by omega) (by omega)
   refine ⟨by omega, h2, fun i hi1 hi2 => ?_, h4⟩
   by_cases he : i = e + 1
   ·subst he; exact hc.2
   ·exact h3 i (by omega) hi2
  ·rw [if_neg hc]
   refine ⟨Nat.le_refl _, h, fun i h1 h2 => by omega, fun h1 => ?_⟩
   cases hb : s.getLsbD (e + 1)
   ·rfl
   ·exact absurd ⟨h1, hb⟩ hc
set_option maxRecDepth 100000 in
theorem runEndS_eq {s : CS} {k e : Nat} (h1 : k ≤ e) (h2 : e ≤ 255) (h3 : ∀ i, k < i → i ≤ e → s.getLsbD i = true) (h4 : e < 255 → s.getLsbD (e + 1) = false) : runEndS s k = e := by
 obtain ⟨r1, r2, r3, r4⟩ := runEnd_spec s 256 k (by omega) (by omega)
 unfold runEndS
 rcases Nat.lt_trichotomy (runEnd s 256 k) e with h | h | h
 ·have := r4 (by omega)
  rw [h3 _ (by omega) (by omega)] at this; cases this
 ·exact h
 ·have := h4 (by omega)
  rw [r3 _ (by omega) (by omega)] at this; cases this

def pieceL (b e : Nat) : List UInt8 := singleL b inL ++ (if b + 1 < e then [45] else []) ++ (if b < e then singleL e inL else [])
def startP (s : CS) (c : Nat) : List UInt8 := if s.getLsbD c && (c == 0 || !s.getLsbD (c - 1)) then pieceL c (runEndS s c) else []
/-- The text of the runs that begin ahead of a byte. -/
def textTo (s : CS) : Nat → List UInt8
 | 0 => []
 | k + 1 => textTo s k ++ startP s k
set_option maxRecDepth 100000 in
theorem textTo_off {s : CS} {k : Nat} (h : s.getLsbD k = false) : textTo s (k + 1) = textTo s k := by simp [textTo, startP, h]
set_option maxRecDepth 100000 in
theorem textTo_in {s : CS} {k : Nat} : ∀ (n : Nat), (∀ i, k ≤ i → i < k + n → s.getLsbD i = true ∧ 0 < i ∧ s.getLsbD (i - 1) = true) → textTo s (k + n) = textTo s k
 | 0, _ => rfl
 | n + 1, h => by
  have ih := textTo_in n fun i h1 h2 => h i h1 (by omega)
  obtain ⟨a, b, c⟩ := h (k + n) (by omega) (by omega)
  have hz : ((k + n) == 0) = false := by simpa using (show ¬ (k + n) = 0 by omega)
  rw [← Nat.add_assoc, textTo, ih, startP, c, hz]
  simp
set_option maxRecDepth 100000 in
theorem textTo_run (s : CS) (k e : Nat) (hb : s.getLsbD k = true) (hst : k = 0 ∨ s.getLsbD (k - 1) = false) (he : runEndS s k = e) (hke : k ≤ e) (hr : ∀ i, k < i → i ≤ e → s.getLsbD i = true) : textTo s (e + 1) = textTo s k ++ pieceL k e := by
 have h1 : textTo s (k + 1 + (e - k)) = textTo s (k + 1) := textTo_in (e - k) fun i hi1 hi2 => by
  refine ⟨hr i (by omega) (by omega), by omega, ?_⟩
  by_cases h : i = k + 1
  ·subst h; exact hb
  ·exact hr (i - 1) (by omega) (by omega)
 rw [show k + 1 + (e - k) = e + 1 by omega] at h1
 rw [h1, textTo, startP, he, hb]
 rcases hst with h | h
 ·subst h; simp
 ·simp [h]
set_option maxRecDepth 100000 in
theorem pieceL_len (b e : Nat) : (pieceL b e).length ≤ 9 := by
 have h1 := singleL_len b inL
 have h2 := singleL_len e inL
 unfold pieceL
 by_cases c1 : b + 1 < e <;> by_cases c2 : b < e <;> simp [c1, c2] <;> omega
set_option maxRecDepth 100000 in
theorem textTo_len (s : CS) (k : Nat) : (textTo s k).length ≤ 9 * k := by
 induction k with
 | zero => simp [textTo]
 | succ k ih =>
  have : (startP s k).length ≤ 9 := by
   unfold startP; split
   ·exact pieceL_len _ _
   ·simp
  simp only [textTo, List.length_append]; omega

/-- The text of a set. -/
def showL (s : CS) : List UInt8 :=
 if countS s = 1 then singleL ((nextS s 0).getD 0) spL
 else if 128 < countS s then [91, 94] ++ textTo (~~~ s) 256 ++ [93] else [91] ++ textTo s 256 ++ [93]

set_option maxRecDepth 100000 in
theorem nextV_getD (s : CS) (h : countS s = 1) : nextV s 0 = .tuple #[.int .u8 ((nextS s 0).getD 0 : Nat), .bool true] := by
 cases hn : nextS s 0 with
 | none =>
  have : countS s = 0 := by
   unfold countS
   rw [List.countP_eq_zero]
   intro i hi
   have := nextS_none hn i (by omega) (List.mem_range.1 hi)
   simp [this]
  omega
 | some c => rw [nextV, hn]; rfl

set_option maxRecDepth 100000 in
set_option maxHeartbeats 1000000 in
theorem show_one (s : CS) (h1 : countS s = 1) : PureE 86 #[.agg (words s)] (.string (bs (showL s))) := by
 intro w hE
 have HS := Lib.hid (show showL s = singleL ((nextS s 0).getD 0) spB.data.toList by unfold showL; rw [if_pos h1]; rfl)
 have c1 := count_pure s
 rw [h1] at c1
 have C1 := Lib.hid c1
 have c2 := next_pure s 0 (by omega) (by omega)
 rw [show (0 : Int).toNat = 0 from rfl, nextV_getD s h1] at c2
 have C2 := Lib.hid c2
 have hlt : (nextS s 0).getD 0 < 256 := by
  cases hn : nextS s 0 with
  | none => simp
  | some c => exact (nextS_some hn).2.1
 have C3 := Lib.hid (single_pure ((nextS s 0).getD 0) hlt spB)
 clear c1 c2 h1
 generalize (nextS s 0).getD 0 = n at *
 have H1 := Lib.hid (heap_alloc_new w (.cells (words s) 84))
 have hb1 : Below w.heap.size w (w.alloc (.cells (words s) 84)) := (Below.refl _ _).alloc (Nat.le_refl _) _
 have hE1 := hE.alloc (.cells (words s) 84)
 go_enter Tryd.func86, Tryd.ntmps86
 go_wp2_with (first | (with_reducible refine stop_dst (d := 9) ?_) | fail)
 unfold Hid
 generalize w.alloc (.cells (words s) 84) = W1 at H1 hb1 hE1 ⊢
 have hl1 : w.heap.size < W1.heap.size := lt_of_blk H1.out
 refine wpList_get_row (d := 9) w.heap.size 84 H1.out (setT _) rfl ?_
 simp only [Act.put, List.setIfInBounds_toArray, List.set_cons_zero, List.set_cons_succ]
 go_wp2_with fail
 refine (C1.out W1).mono ?_
 rintro e W2 ⟨rfl, hv⟩
 have H2 := Lib.hid (blk hv H1.out hl1)
 have hb2 := hb1.trans (hv.mono hb1.size)
 have hE2 := hE1.below hv
 have hl2 : w.heap.size < W2.heap.size := lt_of_blk H2.out
 clear hv hb1 H1 hE1
 go_wp2_with (first | (with_reducible refine stop_dst (d := 14) ?_) | fail)
 unfold Hid
 refine wpList_get_row (d := 14) w.heap.size 84 H2.out (setT _) rfl ?_
 simp only [Act.put, List.setIfInBounds_toArray, List.set_cons_zero, List.set_cons_succ]
 go_wp2_with fail
 refine (C2.out W2).mono ?_
 rintro e W3 ⟨rfl, hv⟩
 have hb3 := hb2.trans (hv.mono hb2.size)
 have hE3 := hE2.below hv
 go_wp2_with fail
 refine (C3.out W3 hE3).mono ?_
 rintro e W4 ⟨rfl, hv4⟩
 go_wp2
 go_ret
 exact ⟨by rw [HS.out]; rfl, hb3.trans (hv4.mono hb3.size)⟩

set_option maxRecDepth 100000 in
set_option maxHeartbeats 2000000 in
theorem show_many (s : CS) (h1 : countS s ≠ 1) : PureE 86 #[.agg (words s)] (.string (bs (showL s))) := by
 intro w hE
 have C1 := Lib.hid (count_pure s)
 have C2 := Lib.hid (not_pure s)
 have hcb : countS s ≤ 256 := by
  have := List.countP_le_length (p := fun i => s.getLsbD i) (l := List.range 256)
  simpa [countS] using this
 have HS0 := Lib.hid (show showL s = if 128 < countS s then [91, 94] ++ textTo (~~~ s) 256 ++ [93] else [91] ++ textTo s 256 ++ [93] by unfold showL; rw [if_neg h1])
 have hn1 : ((countS s : Int) == 1) = false := by simpa using (show ¬ ((countS s : Int) = 1) by omega)
 clear h1
 generalize countS s = n at *
 have H1 := Lib.hid (heap_alloc_new w (.cells (words s) 84))
 have hb1 : Below w.heap.size w (w.alloc (.cells (words s) 84)) := (Below.refl _ _).alloc (Nat.le_refl _) _
 have hE1 := hE.alloc (.cells (words s) 84)
 go_enter Tryd.func86, Tryd.ntmps86
 go_wp2_with (first | (with_reducible refine stop_dst (d := 9) ?_) | fail)
 unfold Hid
 generalize w.alloc (.cells (words s) 84) = W1 at H1 hb1 hE1 ⊢
 have hl1 : w.heap.size < W1.heap.size := lt_of_blk H1.out
 refine wpList_get_row (d := 9) w.heap.size 84 H1.out (setT _) rfl ?_
 simp only [Act.put, List.setIfInBounds_toArray, List.set_cons_zero, List.set_cons_succ]
 go_wp2_with fail
 refine (C1.out W1).mono ?_
 rintro e0 W2 ⟨rfl, hv⟩
 have H2 := Lib.hid (blk hv H1.out hl1)
 have hb2 := hb1.trans (hv.mono hb1.size)
 have hE2 := hE1.below hv
 have hl2 : w.heap.size < W2.heap.size := lt_of_blk H2.out
 clear hv hb1 H1 hE1 C1
 by_cases h128 : 128 < n
 ·have HS := Lib.hid (HS0.out.trans (if_pos h128))
  clear HS0
  go_wp2_with (first | (with_reducible refine stop_dst (d := 22) ?_) | fail)
  unfold Hid
  refine wpList_get_row (d := 22) w.heap.size 84 H2.out (setT _) rfl ?_
  simp only [Act.put, List.setIfInBounds_toArray, List.set_cons_zero, List.set_cons_succ]
  go_wp2_with fail
  refine (C2.out W2).mono ?_
  rintro e0 W3 ⟨rfl, hv⟩
  have H3 := Lib.hid (blk hv H2.out hl2)
  have hb3 := hb2.trans (hv.mono hb2.size)
  have hE3 := hE2.below hv
  have H4 := Lib.hid (heap_setRow_same (cs := words (~~~ s)) H3.out)
  have hb4 := below_setRow hb3 (Nat.le_refl _) (words (~~~ s))
  have hE4 : Esc (W3.setRow w.heap.size (words (~~~ s))) := by
   obtain ⟨te, fre, hx⟩ := hE3
   obtain ⟨te', fre', hx'⟩ := hE
   exact ⟨te, fre, heap_setRow_other hx (by have := lt_of_blk hx'; omega)⟩
  clear H2 hb2 hE2 hl2 hb3 hE3 hv C2
  go_wp2_with (first | ((with_reducible refine wpList_put_row (x := .tmp 1) (y := .tmp 23) (cs := words (~~~ s)) w.heap.size 84 H3.out (words_sz _ _) (setT _) (words_cells _) ?_ ?_ ?_); rfl; rfl) | fail)
  generalize W3.setRow w.heap.size (words (~~~ s)) = W4 at H4 hb4 hE4 ⊢
  clear H3
  generalize ~~~ s = S at *
  have h0 : (⟨#[91, 94]⟩ : ByteArray) = bs [91, 94] := rfl
  rw [h0]
  clear h0
  have hpre : ([91, 94] : List UInt8).length ≤ 2 := by decide
  generalize ([91, 94] : List UInt8) = pre at *
  go_loopw [6, 7] (fun out i wr => ∃ k : Nat, i = .int .i64 k ∧ k ≤ 256 ∧ out = .string (bs (pre ++ textTo S k)) ∧ wr.heap[w.heap.size]? = some (.cells (words S) 84 (0, 0)) ∧ Esc wr ∧ Below w.heap.size w wr ∧ (k = 0 ∨ k = 256 ∨ S.getLsbD (k - 1) = false ∨ S.getLsbD k = false))
   (fun _ i _ => 256 - (intOf i).toNat)
  case atStart => exact ⟨0, rfl, by omega, by simp [textTo], H4.out, hE4, hb4, .inl rfl⟩
  case round =>
   obtain ⟨k, rfl, hk, rfl, hblk0, hEr, hbr, hst⟩ := hrel
   have H5 := Lib.hid hblk0; clear hblk0
   have hlr : w.heap.size < wr.heap.size := lt_of_blk H5.out
   clear H4 hb4 hE4
   by_cases hk6 : k < 256
   ·have CH := Lib.hid (has_pure S (k : Int) (by omega) (by omega))
    go_wp2_with (first | (with_reducible refine stop_dst (d := 28) ?_) | fail)
    unfold Hid
    refine wpList_get_row (d := 28) w.heap.size 84 H5.out (setT _) rfl ?_
    simp only [Act.put, List.setIfInBounds_toArray, List.set_cons_zero, List.set_cons_succ]
    go_wp2_with fail
    refine (CH.out wr).mono ?_
    rintro e0 V1 ⟨rfl, hv⟩
    have H6 := Lib.hid (blk hv H5.out hlr)
    have hb6 := hbr.trans (hv.mono hbr.size)
    have hE6 := hEr.below hv
    have hl6 : w.heap.size < V1.heap.size := lt_of_blk H6.out
    clear hv hbr H5 hEr hlr CH
    rw [Int.toNat_natCast]
    by_cases hbit : S.getLsbD k = true
    ·rw [hbit]
     have hst' : k = 0 ∨ S.getLsbD (k - 1) = false := by
      rcases hst with h | h | h | h
      ·exact .inl h
      ·omega
      ·exact .inr h
      ·rw [h] at hbit; cases hbit
     go_wp2_with fail
     go_loopw [8] (fun i wr => ∃ e : Nat, i = .int .i64 e ∧ k ≤ e ∧ e ≤ 255 ∧ (∀ i, k < i → i ≤ e → S.getLsbD i = true) ∧ wr.heap[w.heap.size]? = some (.cells (words S) 84 (0, 0)) ∧ Esc wr ∧ Below w.heap.size w wr)
      (fun i _ => 255 - (intOf i).toNat)
     case atStart => exact ⟨k, rfl, Nat.le_refl _, by omega, fun i h1 h2 => by omega, H6.out, hE6, hb6⟩
     case round =>
      obtain ⟨e, rfl, hke, he, hrun, hblk1, hE7, hb7⟩ := hrel
      have H7 := Lib.hid hblk1; clear hblk1
      clear H6 hE6 hb6 hl6
      have hl7 : w.heap.size < wr.heap.size := lt_of_blk H7.out
      by_cases he5 : e < 255
      ·have CH := Lib.hid (has_pure S ((e : Int) + 1) (by omega) (by omega))
       rw [show ((e : Int) + 1).toNat = e + 1 by omega] at CH
       have hde : decide ((e : Int) < 255) = true := decide_eq_true (by omega)
       go_wp2_with (first | (with_reducible refine stop_dst (d := 37) ?_) | fail)
       unfold Hid
       refine wpList_get_row_g (d := 37) w.heap.size 84 H7.out (setT _) ?_ ?_ ?_
       rfl
       rfl
       simp only [Act.put, List.setIfInBounds_toArray, List.set_cons_zero, List.set_cons_succ]
       go_wp2_with fail
       refine (CH.out wr).mono ?_
       rintro e0 V2 ⟨rfl, hv⟩
       have H10 := Lib.hid (blk hv H7.out hl7)
       have hb10 := hb7.trans (hv.mono hb7.size)
       have hE10 := hE7.below hv
       have hl10 : w.heap.size < V2.heap.size := lt_of_blk H10.out
       clear hv hb7 H7 hE7 hl7 CH
       by_cases hb2 : S.getLsbD (e + 1) = true
       ·rw [hb2]
        go_wp2
        go_roundw
        case rel =>
         refine ⟨e + 1, by go_num, by omega, by omega, fun i h1 h2 => ?_, H10.out, hE10, hb10⟩
         by_cases hx : i = e + 1
         ·rw [hx]; exact hb2
         ·exact hrun i h1 (by omega)
        case measure => simp [intOf] <;> omega
       ·have hb2' : S.getLsbD (e + 1) = false := by simpa using hb2
        rw [hb2']
        have hend : e < 255 → S.getLsbD (e + 1) = false := fun _ => hb2'
        have H7 := H10
        have hb7 := hb10
        have hE7 := hE10
        have hl7 := hl10
        clear H10 hb10 hE10 hl10
        generalize V2 = wr at *
        have hre := runEndS_eq hke he hrun hend
        have hrunT := textTo_run S k e hbit hst' hre hke hrun
        have CS1 := Lib.hid (single_pure k (by omega) inB)
        rw [show inB.data.toList = inL from rfl] at CS1
        have hq1 := singleL_len k inL
        have CS2 := Lib.hid (single_pure e (by omega) inB)
        rw [show inB.data.toList = inL from rfl] at CS2
        have hq2 := singleL_len e inL
        have hol : (pre ++ textTo S k).length ≤ 2 + 9 * k := by have := textTo_len S k; rw [List.length_append]; omega
        have hn' : e + 1 = 256 ∨ S.getLsbD (e + 1) = false := by
         by_cases h : e < 255
         ·exact .inr (hend h)
         ·exact .inl (by omega)
        have HN := Lib.hid hn'
        clear hn' hend hrun hre hst' hst
        have hT := (show pre ++ textTo S (e + 1) = pre ++ textTo S k ++ pieceL k e by rw [hrunT, List.append_assoc])
        clear hrunT
        have HB := Lib.hid bs_append
        generalize pre ++ textTo S k = o at hol hT ⊢
        unfold pieceL at hT
        generalize hq : singleL k inL = q1 at hq1 CS1 hT
        clear hq
        generalize hq : singleL e inL = q2 at hq2 CS2 hT
        clear hq
        have z1 : (bs o).size ≤ 2 + 9 * 256 := by rw [bs_size]; omega
        have z2 : (bs q1).size ≤ 4 := by rw [bs_size]; omega
        have z3 : (bs q2).size ≤ 4 := by rw [bs_size]; omega
        have z4 : (bs o ++ bs q1).size ≤ 2 + 9 * 256 + 4 := by rw [bs_append, bs_size, List.length_append]; omega
        clear hol hq1 hq2
        by_cases c1 : k + 1 < e
        ·have c2 : k < e := by omega
         rw [if_pos c1, if_pos c2] at hT
         have HT := Lib.hid hT; clear hT
         have z5 : (bs o ++ bs q1 ++ (⟨#[45]⟩ : ByteArray)).size ≤ 2 + 9 * 256 + 5 := by rw [show (⟨#[45]⟩ : ByteArray) = bs [45] from rfl, bs_append, bs_append, bs_size]; rw [bs_append, bs_size] at z4; simp only [List.length_append, List.length_cons, List.length_nil] at z4 ⊢; omega
         go_wp2_with fail
         refine (CS1.out wr hE7).mono ?_
         rintro e0 V3 ⟨rfl, hv⟩
         have H8 := Lib.hid (blk hv H7.out hl7)
         have hb8 := hb7.trans (hv.mono hb7.size)
         have hE8 := hE7.below hv
         have hl8 : w.heap.size < V3.heap.size := lt_of_blk H8.out
         clear hv hb7 hE7 H7 hl7 CS1
         go_wp2_with fail
         refine (CS2.out V3 hE8).mono ?_
         rintro e0 V4 ⟨rfl, hv⟩
         have H9 := Lib.hid (blk hv H8.out hl8)
         have hb9 := hb8.trans (hv.mono hb8.size)
         have hE9 := hE8.below hv
         clear hv hb8 hE8 H8 hl8 CS2
         go_wp2
         go_roundw
         case rel => exact ⟨e + 1, by go_num, by omega, by rw [HT.out]; show Value.string (bs o ++ bs q1 ++ bs [45] ++ bs q2) = _; simp only [HB.out, List.append_assoc], H9.out, hE9, hb9, .inr (HN.out.elim .inl (fun x => .inr (.inr x)))⟩
         case measure => simp [intOf] <;> omega
        ·by_cases c2 : k < e
         ·rw [if_neg c1, if_pos c2, List.append_nil] at hT
          have HT := Lib.hid hT; clear hT
          go_wp2_with fail
          refine (CS1.out wr hE7).mono ?_
          rintro e0 V3 ⟨rfl, hv⟩
          have H8 := Lib.hid (blk hv H7.out hl7)
          have hb8 := hb7.trans (hv.mono hb7.size)
          have hE8 := hE7.below hv
          have hl8 : w.heap.size < V3.heap.size := lt_of_blk H8.out
          clear hv hb7 hE7 H7 hl7 CS1
          go_wp2_with fail
          refine (CS2.out V3 hE8).mono ?_
          rintro e0 V4 ⟨rfl, hv⟩
          have H9 := Lib.hid (blk hv H8.out hl8)
          have hb9 := hb8.trans (hv.mono hb8.size)
          have hE9 := hE8.below hv
          clear hv hb8 hE8 H8 hl8 CS2
          go_wp2
          go_roundw
          case rel => exact ⟨e + 1, by go_num, by omega, by rw [HT.out]; show Value.string (bs o ++ bs q1 ++ bs q2) = _; simp only [HB.out, List.append_assoc], H9.out, hE9, hb9, .inr (HN.out.elim .inl (fun x => .inr (.inr x)))⟩
          case measure => simp [intOf] <;> omega
         ·rw [if_neg c1, if_neg c2, List.append_nil, List.append_nil] at hT
          have HT := Lib.hid hT; clear hT
          clear CS2
          go_wp2_with fail
          refine (CS1.out wr hE7).mono ?_
          rintro e0 V3 ⟨rfl, hv⟩
          have H8 := Lib.hid (blk hv H7.out hl7)
          have hb8 := hb7.trans (hv.mono hb7.size)
          have hE8 := hE7.below hv
          have hl8 : w.heap.size < V3.heap.size := lt_of_blk H8.out
          clear hv hb7 hE7 H7 hl7 CS1
          go_wp2
          go_roundw
          case rel => exact ⟨e + 1, by go_num, by omega, by rw [HT.out]; show Value.string (bs o ++ bs q1) = _; simp only [HB.out], H8.out, hE8, hb8, .inr (HN.out.elim .inl (fun x => .inr (.inr x)))⟩
          case measure => simp [intOf] <;> omega
      ·have hend : e < 255 → S.getLsbD (e + 1) = false := fun h => absurd h he5
       have hre := runEndS_eq hke he hrun hend
       have hrunT := textTo_run S k e hbit hst' hre hke hrun
       have CS1 := Lib.hid (single_pure k (by omega) inB)
       rw [show inB.data.toList = inL from rfl] at CS1
       have hq1 := singleL_len k inL
       have CS2 := Lib.hid (single_pure e (by omega) inB)
       rw [show inB.data.toList = inL from rfl] at CS2
       have hq2 := singleL_len e inL
       have hol : (pre ++ textTo S k).length ≤ 2 + 9 * k := by have := textTo_len S k; rw [List.length_append]; omega
       have hn' : e + 1 = 256 ∨ S.getLsbD (e + 1) = false := by
        by_cases h : e < 255
        ·exact .inr (hend h)
        ·exact .inl (by omega)
       have HN := Lib.hid hn'
       clear hn' hend hrun hre hst' hst
       have hT := (show pre ++ textTo S (e + 1) = pre ++ textTo S k ++ pieceL k e by rw [hrunT, List.append_assoc])
       clear hrunT
       have HB := Lib.hid bs_append
       generalize pre ++ textTo S k = o at hol hT ⊢
       unfold pieceL at hT
       generalize hq : singleL k inL = q1 at hq1 CS1 hT
       clear hq
       generalize hq : singleL e inL = q2 at hq2 CS2 hT
       clear hq
       have z1 : (bs o).size ≤ 2 + 9 * 256 := by rw [bs_size]; omega
       have z2 : (bs q1).size ≤ 4 := by rw [bs_size]; omega
       have z3 : (bs q2).size ≤ 4 := by rw [bs_size]; omega
       have z4 : (bs o ++ bs q1).size ≤ 2 + 9 * 256 + 4 := by rw [bs_append, bs_size, List.length_append]; omega
       clear hol hq1 hq2
       by_cases c1 : k + 1 < e
       ·have c2 : k < e := by omega
        rw [if_pos c1, if_pos c2] at hT
        have HT := Lib.hid hT; clear hT
        have z5 : (bs o ++ bs q1 ++ (⟨#[45]⟩ : ByteArray)).size ≤ 2 + 9 * 256 + 5 := by rw [show (⟨#[45]⟩ : ByteArray) = bs [45] from rfl, bs_append, bs_append, bs_size]; rw [bs_append, bs_size] at z4; simp only [List.length_append, List.length_cons, List.length_nil] at z4 ⊢; omega
        go_wp2_with fail
        refine (CS1.out wr hE7).mono ?_
        rintro e0 V3 ⟨rfl, hv⟩
        have H8 := Lib.hid (blk hv H7.out hl7)
        have hb8 := hb7.trans (hv.mono hb7.size)
        have hE8 := hE7.below hv
        have hl8 : w.heap.size < V3.heap.size := lt_of_blk H8.out
        clear hv hb7 hE7 H7 hl7 CS1
        go_wp2_with fail
        refine (CS2.out V3 hE8).mono ?_
        rintro e0 V4 ⟨rfl, hv⟩
        have H9 := Lib.hid (blk hv H8.out hl8)
        have hb9 := hb8.trans (hv.mono hb8.size)
        have hE9 := hE8.below hv
        clear hv hb8 hE8 H8 hl8 CS2
        go_wp2
        go_roundw
        case rel => exact ⟨e + 1, by go_num, by omega, by rw [HT.out]; show Value.string (bs o ++ bs q1 ++ bs [45] ++ bs q2) = _; simp only [HB.out, List.append_assoc], H9.out, hE9, hb9, .inr (HN.out.elim .inl (fun x => .inr (.inr x)))⟩
        case measure => simp [intOf] <;> omega
       ·by_cases c2 : k < e
        ·rw [if_neg c1, if_pos c2, List.append_nil] at hT
         have HT := Lib.hid hT; clear hT
         go_wp2_with fail
         refine (CS1.out wr hE7).mono ?_
         rintro e0 V3 ⟨rfl, hv⟩
         have H8 := Lib.hid (blk hv H7.out hl7)
         have hb8 := hb7.trans (hv.mono hb7.size)
         have hE8 := hE7.below hv
         have hl8 : w.heap.size < V3.heap.size := lt_of_blk H8.out
         clear hv hb7 hE7 H7 hl7 CS1
         go_wp2_with fail
         refine (CS2.out V3 hE8).mono ?_
         rintro e0 V4 ⟨rfl, hv⟩
         have H9 := Lib.hid (blk hv H8.out hl8)
         have hb9 := hb8.trans (hv.mono hb8.size)
         have hE9 := hE8.below hv
         clear hv hb8 hE8 H8 hl8 CS2
         go_wp2
         go_roundw
         case rel => exact ⟨e + 1, by go_num, by omega, by rw [HT.out]; show Value.string (bs o ++ bs q1 ++ bs q2) = _; simp only [HB.out, List.append_assoc], H9.out, hE9, hb9, .inr (HN.out.elim .inl (fun x => .inr (.inr x)))⟩
         case measure => simp [intOf] <;> omega
        ·rw [if_neg c1, if_neg c2, List.append_nil, List.append_nil] at hT
         have HT := Lib.hid hT; clear hT
         clear CS2
         go_wp2_with fail
         refine (CS1.out wr hE7).mono ?_
         rintro e0 V3 ⟨rfl, hv⟩
         have H8 := Lib.hid (blk hv H7.out hl7)
         have hb8 := hb7.trans (hv.mono hb7.size)
         have hE8 := hE7.below hv
         have hl8 : w.heap.size < V3.heap.size := lt_of_blk H8.out
         clear hv hb7 hE7 H7 hl7 CS1
         go_wp2
         go_roundw
         case rel => exact ⟨e + 1, by go_num, by omega, by rw [HT.out]; show Value.string (bs o ++ bs q1) = _; simp only [HB.out], H8.out, hE8, hb8, .inr (HN.out.elim .inl (fun x => .inr (.inr x)))⟩
         case measure => simp [intOf] <;> omega
    ·have hbit' : S.getLsbD k = false := by simpa using hbit
     rw [hbit']
     go_wp2
     go_roundw
     case rel => exact ⟨k + 1, by go_num, by omega, by rw [textTo_off hbit'], H6.out, hE6, hb6, .inr (.inr (.inl (by rw [Nat.add_sub_cancel]; exact hbit')))⟩
     case measure => simp [intOf] <;> omega
   ·have hk0 : k = 256 := by omega
    subst hk0
    have hol : (pre ++ textTo S 256).length ≤ 2 + 9 * 256 := by have := textTo_len S 256; rw [List.length_append]; omega
    have HB := Lib.hid bs_append
    generalize pre ++ textTo S 256 = o at hol HS ⊢
    have z1 : (bs o).size ≤ 2 + 9 * 256 := by rw [bs_size]; omega
    go_wp2
    go_ret
    exact ⟨by rw [HS.out, ← HB.out]; rfl, hbr⟩
 ·have HS := Lib.hid (HS0.out.trans (if_neg h128))
  clear HS0
  go_wp2_with fail
  have h0 : (⟨#[91]⟩ : ByteArray) = bs [91] := rfl
  rw [h0]
  clear h0
  have hpre : ([91] : List UInt8).length ≤ 2 := by decide
  generalize ([91] : List UInt8) = pre at *
  clear C2
  obtain ⟨S, hSs⟩ : ∃ S, S = s := ⟨s, rfl⟩
  rw [show textTo s 256 = textTo S 256 by rw [hSs]] at HS
  rw [← hSs] at H2
  clear hSs
  have H4 := H2
  have hb4 := hb2
  have hE4 := hE2
  clear H2 hb2 hE2
  generalize W2 = W4 at *
  go_loopw [6, 7] (fun out i wr => ∃ k : Nat, i = .int .i64 k ∧ k ≤ 256 ∧ out = .string (bs (pre ++ textTo S k)) ∧ wr.heap[w.heap.size]? = some (.cells (words S) 84 (0, 0)) ∧ Esc wr ∧ Below w.heap.size w wr ∧ (k = 0 ∨ k = 256 ∨ S.getLsbD (k - 1) = false ∨ S.getLsbD k = false))
   (fun _ i _ => 256 - (intOf i).toNat)
  case atStart => exact ⟨0, rfl, by omega, by simp [textTo], H4.out, hE4, hb4, .inl rfl⟩
  case round =>
   obtain ⟨k, rfl, hk, rfl, hblk0, hEr, hbr, hst⟩ := hrel
   have H5 := Lib.hid hblk0; clear hblk0
   have hlr : w.heap.size < wr.heap.size := lt_of_blk H5.out
   clear H4 hb4 hE4
   by_cases hk6 : k < 256
   ·have CH := Lib.hid (has_pure S (k : Int) (by omega) (by omega))
    go_wp2_with (first | (with_reducible refine stop_dst (d := 28) ?_) | fail)
    unfold Hid
    refine wpList_get_row (d := 28) w.heap.size 84 H5.out (setT _) rfl ?_
    simp only [Act.put, List.setIfInBounds_toArray, List.set_cons_zero, List.set_cons_succ]
    go_wp2_with fail
    refine (CH.out wr).mono ?_
    rintro e0 V1 ⟨rfl, hv⟩
    have H6 := Lib.hid (blk hv H5.out hlr)
    have hb6 := hbr.trans (hv.mono hbr.size)
    have hE6 := hEr.below hv
    have hl6 : w.heap.size < V1.heap.size := lt_of_blk H6.out
    clear hv hbr H5 hEr hlr CH
    rw [Int.toNat_natCast]
    by_cases hbit : S.getLsbD k = true
    ·rw [hbit]
     have hst' : k = 0 ∨ S.getLsbD (k - 1) = false := by
      rcases hst with h | h | h | h
      ·exact .inl h
      ·omega
      ·exact .inr h
      ·rw [h] at hbit; cases hbit
     go_wp2_with fail
     go_loopw [8] (fun i wr => ∃ e : Nat, i = .int .i64 e ∧ k ≤ e ∧ e ≤ 255 ∧ (∀ i, k < i → i ≤ e → S.getLsbD i = true) ∧ wr.heap[w.heap.size]? = some (.cells (words S) 84 (0, 0)) ∧ Esc wr ∧ Below w.heap.size w wr)
      (fun i _ => 255 - (intOf i).toNat)
     case atStart => exact ⟨k, rfl, Nat.le_refl _, by omega, fun i h1 h2 => by omega, H6.out, hE6, hb6⟩
     case round =>
      obtain ⟨e, rfl, hke, he, hrun, hblk1, hE7, hb7⟩ := hrel
      have H7 := Lib.hid hblk1; clear hblk1
      clear H6 hE6 hb6 hl6
      have hl7 : w.heap.size < wr.heap.size := lt_of_blk H7.out
      by_cases he5 : e < 255
      ·have CH := Lib.hid (has_pure S ((e : Int) + 1) (by omega) (by omega))
       rw [show ((e : Int) + 1).toNat = e + 1 by omega] at CH
       have hde : decide ((e : Int) < 255) = true := decide_eq_true (by omega)
       go_wp2_with (first | (with_reducible refine stop_dst (d := 37) ?_) | fail)
       unfold Hid
       refine wpList_get_row_g (d := 37) w.heap.size 84 H7.out (setT _) ?_ ?_ ?_
       rfl
       rfl
       simp only [Act.put, List.setIfInBounds_toArray, List.set_cons_zero, List.set_cons_succ]
       go_wp2_with fail
       refine (CH.out wr).mono ?_
       rintro e0 V2 ⟨rfl, hv⟩
       have H10 := Lib.hid (blk hv H7.out hl7)
       have hb10 := hb7.trans (hv.mono hb7.size)
       have hE10 := hE7.below hv
       have hl10 : w.heap.size < V2.heap.size := lt_of_blk H10.out
       clear hv hb7 H7 hE7 hl7 CH
       by_cases hb2 : S.getLsbD (e + 1) = true
       ·rw [hb2]
        go_wp2
        go_roundw
        case rel =>
         refine ⟨e + 1, by go_num, by omega, by omega, fun i h1 h2 => ?_, H10.out, hE10, hb10⟩
         by_cases hx : i = e + 1
         ·rw [hx]; exact hb2
         ·exact hrun i h1 (by omega)
        case measure => simp [intOf] <;> omega
       ·have hb2' : S.getLsbD (e + 1) = false := by simpa using hb2
        rw [hb2']
        have hend : e < 255 → S.getLsbD (e + 1) = false := fun _ => hb2'
        have H7 := H10
        have hb7 := hb10
        have hE7 := hE10
        have hl7 := hl10
        clear H10 hb10 hE10 hl10
        generalize V2 = wr at *
        have hre := runEndS_eq hke he hrun hend
        have hrunT := textTo_run S k e hbit hst' hre hke hrun
        have CS1 := Lib.hid (single_pure k (by omega) inB)
        rw [show inB.data.toList = inL from rfl] at CS1
        have hq1 := singleL_len k inL
        have CS2 := Lib.hid (single_pure e (by omega) inB)
        rw [show inB.data.toList = inL from rfl] at CS2
        have hq2 := singleL_len e inL
        have hol : (pre ++ textTo S k).length ≤ 2 + 9 * k := by have := textTo_len S k; rw [List.length_append]; omega
        have hn' : e + 1 = 256 ∨ S.getLsbD (e + 1) = false := by
         by_cases h : e < 255
         ·exact .inr (hend h)
         ·exact .inl (by omega)
        have HN := Lib.hid hn'
        clear hn' hend hrun hre hst' hst
        have hT := (show pre ++ textTo S (e + 1) = pre ++ textTo S k ++ pieceL k e by rw [hrunT, List.append_assoc])
        clear hrunT
        have HB := Lib.hid bs_append
        generalize pre ++ textTo S k = o at hol hT ⊢
        unfold pieceL at hT
        generalize hq : singleL k inL = q1 at hq1 CS1 hT
        clear hq
        generalize hq : singleL e inL = q2 at hq2 CS2 hT
        clear hq
        have z1 : (bs o).size ≤ 2 + 9 * 256 := by rw [bs_size]; omega
        have z2 : (bs q1).size ≤ 4 := by rw [bs_size]; omega
        have z3 : (bs q2).size ≤ 4 := by rw [bs_size]; omega
        have z4 : (bs o ++ bs q1).size ≤ 2 + 9 * 256 + 4 := by rw [bs_append, bs_size, List.length_append]; omega
        clear hol hq1 hq2
        by_cases c1 : k + 1 < e
        ·have c2 : k < e := by omega
         rw [if_pos c1, if_pos c2] at hT
         have HT := Lib.hid hT; clear hT
         have z5 : (bs o ++ bs q1 ++ (⟨#[45]⟩ : ByteArray)).size ≤ 2 + 9 * 256 + 5 := by rw [show (⟨#[45]⟩ : ByteArray) = bs [45] from rfl, bs_append, bs_append, bs_size]; rw [bs_append, bs_size] at z4; simp only [List.length_append, List.length_cons, List.length_nil] at z4 ⊢; omega
         go_wp2_with fail
         refine (CS1.out wr hE7).mono ?_
         rintro e0 V3 ⟨rfl, hv⟩
         have H8 := Lib.hid (blk hv H7.out hl7)
         have hb8 := hb7.trans (hv.mono hb7.size)
         have hE8 := hE7.below hv
         have hl8 : w.heap.size < V3.heap.size := lt_of_blk H8.out
         clear hv hb7 hE7 H7 hl7 CS1
         go_wp2_with fail
         refine (CS2.out V3 hE8).mono ?_
         rintro e0 V4 ⟨rfl, hv⟩
         have H9 := Lib.hid (blk hv H8.out hl8)
         have hb9 := hb8.trans (hv.mono hb8.size)
         have hE9 := hE8.below hv
         clear hv hb8 hE8 H8 hl8 CS2
         go_wp2
         go_roundw
         case rel => exact ⟨e + 1, by go_num, by omega, by rw [HT.out]; show Value.string (bs o ++ bs q1 ++ bs [45] ++ bs q2) = _; simp only [HB.out, List.append_assoc], H9.out, hE9, hb9, .inr (HN.out.elim .inl (fun x => .inr (.inr x)))⟩
         case measure => simp [intOf] <;> omega
        ·by_cases c2 : k < e
         ·rw [if_neg c1, if_pos c2, List.append_nil] at hT
          have HT := Lib.hid hT; clear hT
          go_wp2_with fail
          refine (CS1.out wr hE7).mono ?_
          rintro e0 V3 ⟨rfl, hv⟩
          have H8 := Lib.hid (blk hv H7.out hl7)
          have hb8 := hb7.trans (hv.mono hb7.size)
          have hE8 := hE7.below hv
          have hl8 : w.heap.size < V3.heap.size := lt_of_blk H8.out
          clear hv hb7 hE7 H7 hl7 CS1
          go_wp2_with fail
          refine (CS2.out V3 hE8).mono ?_
          rintro e0 V4 ⟨rfl, hv⟩
          have H9 := Lib.hid (blk hv H8.out hl8)
          have hb9 := hb8.trans (hv.mono hb8.size)
          have hE9 := hE8.below hv
          clear hv hb8 hE8 H8 hl8 CS2
          go_wp2
          go_roundw
          case rel => exact ⟨e + 1, by go_num, by omega, by rw [HT.out]; show Value.string (bs o ++ bs q1 ++ bs q2) = _; simp only [HB.out, List.append_assoc], H9.out, hE9, hb9, .inr (HN.out.elim .inl (fun x => .inr (.inr x)))⟩
          case measure => simp [intOf] <;> omega
         ·rw [if_neg c1, if_neg c2, List.append_nil, List.append_nil] at hT
          have HT := Lib.hid hT; clear hT
          clear CS2
          go_wp2_with fail
          refine (CS1.out wr hE7).mono ?_
          rintro e0 V3 ⟨rfl, hv⟩
          have H8 := Lib.hid (blk hv H7.out hl7)
          have hb8 := hb7.trans (hv.mono hb7.size)
          have hE8 := hE7.below hv
          have hl8 : w.heap.size < V3.heap.size := lt_of_blk H8.out
          clear hv hb7 hE7 H7 hl7 CS1
          go_wp2
          go_roundw
          case rel => exact ⟨e + 1, by go_num, by omega, by rw [HT.out]; show Value.string (bs o ++ bs q1) = _; simp only [HB.out], H8.out, hE8, hb8, .inr (HN.out.elim .inl (fun x => .inr (.inr x)))⟩
          case measure => simp [intOf] <;> omega
      ·have hend : e < 255 → S.getLsbD (e + 1) = false := fun h => absurd h he5
       have hre := runEndS_eq hke he hrun hend
       have hrunT := textTo_run S k e hbit hst' hre hke hrun
       have CS1 := Lib.hid (single_pure k (by omega) inB)
       rw [show inB.data.toList = inL from rfl] at CS1
       have hq1 := singleL_len k inL
       have CS2 := Lib.hid (single_pure e (by omega) inB)
       rw [show inB.data.toList = inL from rfl] at CS2
       have hq2 := singleL_len e inL
       have hol : (pre ++ textTo S k).length ≤ 2 + 9 * k := by have := textTo_len S k; rw [List.length_append]; omega
       have hn' : e + 1 = 256 ∨ S.getLsbD (e + 1) = false := by
        by_cases h : e < 255
        ·exact .inr (hend h)
        ·exact .inl (by omega)
       have HN := Lib.hid hn'
       clear hn' hend hrun hre hst' hst
       have hT := (show pre ++ textTo S (e + 1) = pre ++ textTo S k ++ pieceL k e by rw [hrunT, List.append_assoc])
       clear hrunT
       have HB := Lib.hid bs_append
       generalize pre ++ textTo S k = o at hol hT ⊢
       unfold pieceL at hT
       generalize hq : singleL k inL = q1 at hq1 CS1 hT
       clear hq
       generalize hq : singleL e inL = q2 at hq2 CS2 hT
       clear hq
       have z1 : (bs o).size ≤ 2 + 9 * 256 := by rw [bs_size]; omega
       have z2 : (bs q1).size ≤ 4 := by rw [bs_size]; omega
       have z3 : (bs q2).size ≤ 4 := by rw [bs_size]; omega
       have z4 : (bs o ++ bs q1).size ≤ 2 + 9 * 256 + 4 := by rw [bs_append, bs_size, List.length_append]; omega
       clear hol hq1 hq2
       by_cases c1 : k + 1 < e
       ·have c2 : k < e := by omega
        rw [if_pos c1, if_pos c2] at hT
        have HT := Lib.hid hT; clear hT
        have z5 : (bs o ++ bs q1 ++ (⟨#[45]⟩ : ByteArray)).size ≤ 2 + 9 * 256 + 5 := by rw [show (⟨#[45]⟩ : ByteArray) = bs [45] from rfl, bs_append, bs_append, bs_size]; rw [bs_append, bs_size] at z4; simp only [List.length_append, List.length_cons, List.length_nil] at z4 ⊢; omega
        go_wp2_with fail
        refine (CS1.out wr hE7).mono ?_
        rintro e0 V3 ⟨rfl, hv⟩
        have H8 := Lib.hid (blk hv H7.out hl7)
        have hb8 := hb7.trans (hv.mono hb7.size)
        have hE8 := hE7.below hv
        have hl8 : w.heap.size < V3.heap.size := lt_of_blk H8.out
        clear hv hb7 hE7 H7 hl7 CS1
        go_wp2_with fail
        refine (CS2.out V3 hE8).mono ?_
        rintro e0 V4 ⟨rfl, hv⟩
        have H9 := Lib.hid (blk hv H8.out hl8)
        have hb9 := hb8.trans (hv.mono hb8.size)
        have hE9 := hE8.below hv
        clear hv hb8 hE8 H8 hl8 CS2
        go_wp2
        go_roundw
        case rel => exact ⟨e + 1, by go_num, by omega, by rw [HT.out]; show Value.string (bs o ++ bs q1 ++ bs [45] ++ bs q2) = _; simp only [HB.out, List.append_assoc], H9.out, hE9, hb9, .inr (HN.out.elim .inl (fun x => .inr (.inr x)))⟩
        case measure => simp [intOf] <;> omega
       ·by_cases c2 : k < e
        ·rw [if_neg c1, if_pos c2, List.append_nil] at hT
         have HT := Lib.hid hT; clear hT
         go_wp2_with fail
         refine (CS1.out wr hE7).mono ?_
         rintro e0 V3 ⟨rfl, hv⟩
         have H8 := Lib.hid (blk hv H7.out hl7)
         have hb8 := hb7.trans (hv.mono hb7.size)
         have hE8 := hE7.below hv
         have hl8 : w.heap.size < V3.heap.size := lt_of_blk H8.out
         clear hv hb7 hE7 H7 hl7 CS1
         go_wp2_with fail
         refine (CS2.out V3 hE8).mono ?_
         rintro e0 V4 ⟨rfl, hv⟩
         have H9 := Lib.hid (blk hv H8.out hl8)
         have hb9 := hb8.trans (hv.mono hb8.size)
         have hE9 := hE8.below hv
         clear hv hb8 hE8 H8 hl8 CS2
         go_wp2
         go_roundw
         case rel => exact ⟨e + 1, by go_num, by omega, by rw [HT.out]; show Value.string (bs o ++ bs q1 ++ bs q2) = _; simp only [HB.out, List.append_assoc], H9.out, hE9, hb9, .inr (HN.out.elim .inl (fun x => .inr (.inr x)))⟩
         case measure => simp [intOf] <;> omega
        ·rw [if_neg c1, if_neg c2, List.append_nil, List.append_nil] at hT
         have HT := Lib.hid hT; clear hT
         clear CS2
         go_wp2_with fail
         refine (CS1.out wr hE7).mono ?_
         rintro e0 V3 ⟨rfl, hv⟩
         have H8 := Lib.hid (blk hv H7.out hl7)
         have hb8 := hb7.trans (hv.mono hb7.size)
         have hE8 := hE7.below hv
         have hl8 : w.heap.size < V3.heap.size := lt_of_blk H8.out
         clear hv hb7 hE7 H7 hl7 CS1
         go_wp2
         go_roundw
         case rel => exact ⟨e + 1, by go_num, by omega, by rw [HT.out]; show Value.string (bs o ++ bs q1) = _; simp only [HB.out], H8.out, hE8, hb8, .inr (HN.out.elim .inl (fun x => .inr (.inr x)))⟩
         case measure => simp [intOf] <;> omega
    ·have hbit' : S.getLsbD k = false := by simpa using hbit
     rw [hbit']
     go_wp2
     go_roundw
     case rel => exact ⟨k + 1, by go_num, by omega, by rw [textTo_off hbit'], H6.out, hE6, hb6, .inr (.inr (.inl (by rw [Nat.add_sub_cancel]; exact hbit')))⟩
     case measure => simp [intOf] <;> omega
   ·have hk0 : k = 256 := by omega
    subst hk0
    have hol : (pre ++ textTo S 256).length ≤ 2 + 9 * 256 := by have := textTo_len S 256; rw [List.length_append]; omega
    have HB := Lib.hid bs_append
    generalize pre ++ textTo S 256 = o at hol HS ⊢
    have z1 : (bs o).size ≤ 2 + 9 * 256 := by rw [bs_size]; omega
    go_wp2
    go_ret
    exact ⟨by rw [HS.out, ← HB.out]; rfl, hbr⟩
end Go.Proofs.YtohnchdnkbadaaaDoor
namespace Go.Proofs.YtohnchdnkbadaaaDoor
open Go Go.RowKit

/-- The four words of a set, as a list. -/
def wl (s : CS) : List Value := [.int .u64 (wd s 0), .int .u64 (wd s 1), .int .u64 (wd s 2), .int .u64 (wd s 3)]
set_option maxRecDepth 100000 in
theorem nat_of {x : Int} (h : 0 ≤ x ∧ x < 256) : ∃ n : Nat, n < 256 ∧ x = (n : Int) := ⟨x.toNat, by omega, by omega⟩
set_option maxRecDepth 100000 in
theorem span_does (lo hi : Int) (h : (0 ≤ lo ∧ lo < 256) ∧ (0 ≤ hi ∧ hi < 256)) : Does Tryd.prog 176 [.int .u8 lo, .int .u8 hi] [] [] (Ret (.agg (wl (spanS lo.toNat hi.toNat)).toArray) []) := by
 obtain ⟨n, hn, rfl⟩ := nat_of h.1
 obtain ⟨m, hm, rfl⟩ := nat_of h.2
 exact Does.ofPure (span_pure n m hn hm)
set_option maxRecDepth 100000 in
theorem not_does (s : CS) : Does Tryd.prog 125 [.agg (wl s).toArray] [] [] (Ret (.agg (wl (~~~ s)).toArray) []) := Does.ofPure (not_pure s)
set_option maxRecDepth 100000 in
theorem union_does (s t : CS) : Does Tryd.prog 180 [.agg (wl s).toArray, .agg (wl t).toArray] [] [] (Ret (.agg (wl (s ||| t)).toArray) []) := Does.ofPure (union_pure s t)
set_option maxRecDepth 100000 in
theorem of_does (l : List UInt8) (h : l.length ≤ maxLen) : Does Tryd.prog 41 [st l] [] [] (Ret (.agg (wl (ofS l)).toArray) []) := by
 have := of_pure ⟨l.toArray⟩ (by simpa [ByteArray.size] using h)
 exact Does.ofPure this
set_option maxRecDepth 100000 in
theorem indexByte_does (l : List UInt8) (c : Int) : Does Tryd.prog 135 [st l, .int .u8 c] [] [] (Ret (.int .i64 (Lib.indexByte l c.toNat.toUInt8)) []) :=
 Does.ofPure fun w => (Tryd.strings_IndexByte ⟨l.toArray⟩ c w).mono fun _ _ ⟨h1, h2⟩ => by subst h2; exact ⟨h1, Below.refl _ _⟩
/-- The value that a fault ends the reading with. -/
def faultV (code place : Int) : Value := .iface 26 (.agg #[.int .i64 code, .int .i64 place, st []])
end Go.Proofs.YtohnchdnkbadaaaDoor
namespace Go.Proofs.YtohnchdnkbadaaaDoor
open Go Go.RowKit
abbrev zP (b : Nat) : Value := Value.pointer (some ⟨b, 0, none⟩)
abbrev zI (i : Int) : Value := Value.int .i64 i
abbrev zU (i : Int) : Value := Value.int .u8 i
abbrev zB (b : Bool) : Value := Value.bool b
theorem wv {P : Program} {ops : Array Oper} {Q : Exit → Act → World → Prop} {C : Cx} {L : Sl} {H : List HA} {rest : List Oper} {o : Oper} {v : Value} {d : Nat} (hv : OV P C L H o v) (h : WL P ops Q C ((d, v) :: L) H rest) (hw : wantB ops L o = some true := by exact rfl) (hd : o.dst = some d := by exact rfl) (hn : Nat.blt d C.n = true := by exact rfl) : WL P ops Q C L H (o :: rest) := WL.val hv hw hd hn h
end Go.Proofs.YtohnchdnkbadaaaDoor
namespace Go.Proofs.YtohnchdnkbadaaaDoor
open Go Go.RowKit

theorem tf_some_5 : (Tryd.prog.underlying 5).isSome = true := by kernel_rfl
theorem tf_field_222_1 : fieldOff Tryd.prog 222 1 = some 1 := by kernel_rfl
theorem tf_scal_3 : scalB Tryd.prog 3 = true := by kernel_rfl
theorem tf_field_222_0 : fieldOff Tryd.prog 222 0 = some 0 := by kernel_rfl
theorem tf_scal_9 : scalB Tryd.prog 9 = true := by kernel_rfl
theorem tf_str_9 : strB Tryd.prog 9 = true := by kernel_rfl
theorem tf_mixed : Tryd.prog.follows .mixedOrders = true := by kernel_rfl
theorem tf_conc_26 : Program.concrete Tryd.prog 26 = true := by kernel_rfl

def peek_vc (r_0 : List UInt8) (r_1 : Int) (K : Int → Bool → Prop) : Prop :=
 (if (decide (r_1 < (r_0.length : Int))) = true then
  (0 ≤ r_1 ∧ r_1 < r_0.length) ∧
  K ((r_0.getD r_1.toNat 0).toNat : Int) true
 else
  K 0 false)
set_option maxRecDepth 100000 in
theorem peek_wp (b : Nat) (r_0 : List UInt8) (r_1 : Int) (K : Int → Bool → Prop) (h : peek_vc r_0 r_1 K) :
  Does Tryd.prog 178 [zP b] [(b, .cells [st r_0, zI r_1].toArray 222 (0, 0))] [] (fun o => (∃ (v : Int) (v_1' : Bool), K v v_1' ∧ o = .ret (Value.tuple #[zU v, zB v_1']) []) ∨ (False)) := by
 unfold peek_vc at h
 refine does_of_wc (n := 23) (L0 := [(0, zP b)]) Tryd.func178 rfl rfl rfl rfl (fun w0 M Q hE => ?_)
 refine wc_seq (fun K0 hK => ?_)
 refine wc_region ?_
 refine wv (OV.assign rfl) ?_
 refine wv (OV.assign rfl) ?_
 refine WL.nil ?_
 refine KX.go (hK [(0, zP b)] _ ?_) ⟨rfl, trivial⟩
 refine wc_seq (fun K0_1' hK_1' => ?_)
 refine wc_seq (fun K0_2' hK_2' => ?_)
 refine wc_draw 9 [] tf_mixed (by kernel_rfl) rfl (fun T hT => ?_)
 refine FL.val (fun _ => OV.move rfl) rfl (fun _ => rfl) rfl rfl ?_
 refine FL.val (fun _ => OV.nilCheck rfl) rfl (fun _ => rfl) rfl rfl ?_
 refine FL.val (fun _ => OV.fieldAddr0 rfl tf_field_222_1) rfl (fun _ => rfl) rfl rfl ?_
 refine FL.val (fun _ => OV.load rfl (At.ro 0 rfl) rfl tf_scal_3) rfl (fun _ => rfl) rfl rfl ?_
 refine FL.val (fun _ => OV.move rfl) rfl (fun _ => rfl) rfl rfl ?_
 refine FL.val (fun _ => OV.nilCheck rfl) rfl (fun _ => rfl) rfl rfl ?_
 refine FL.val (fun _ => OV.fieldAddr0 rfl tf_field_222_0) rfl (fun _ => rfl) rfl rfl ?_
 refine FL.val (fun _ => OV.load rfl (At.ro 0 rfl) rfl tf_scal_9) rfl (fun _ => rfl) rfl rfl ?_
 refine FL.val (fun _ => OV.len rfl tf_str_9) rfl (fun _ => rfl) rfl rfl ?_
 refine FL.weak (L' := fun γ => [(0, zP b), (7, zI r_1), (12, zI (r_0.length : Int))]) (fun γ => ⟨rfl, rfl, rfl, trivial⟩) (FL.nil (hT (fun γ => [(0, zP b), (7, zI r_1), (12, zI (r_0.length : Int))]) (fun γ => ?_)))
 refine wv (OV.lss rfl rfl) ?_
 refine WL.nil ?_
 refine KX.go (hK_2' [(0, zP b), (13, zB (decide (r_1 < (r_0.length : Int))))] _ ?_) ⟨rfl, rfl, trivial⟩
 refine wc_cond (b := decide (r_1 < (r_0.length : Int))) rfl (fun hb => ?_) (fun hb => ?_)
 ·replace h := if_T h hb
  refine wc_seq (fun K0_3' hK_3' => ?_)
  refine wc_draw 8 [] tf_mixed (by kernel_rfl) rfl (fun T_1' hT_1' => ?_)
  refine FL.val (fun _ => OV.move rfl) rfl (fun _ => rfl) rfl rfl ?_
  refine FL.val (fun _ => OV.nilCheck rfl) rfl (fun _ => rfl) rfl rfl ?_
  refine FL.val (fun _ => OV.fieldAddr0 rfl tf_field_222_0) rfl (fun _ => rfl) rfl rfl ?_
  refine FL.val (fun _ => OV.load rfl (At.ro 0 rfl) rfl tf_scal_9) rfl (fun _ => rfl) rfl rfl ?_
  refine FL.val (fun _ => OV.move rfl) rfl (fun _ => rfl) rfl rfl ?_
  refine FL.val (fun _ => OV.nilCheck rfl) rfl (fun _ => rfl) rfl rfl ?_
  refine FL.val (fun _ => OV.fieldAddr0 rfl tf_field_222_1) rfl (fun _ => rfl) rfl rfl ?_
  refine FL.val (fun _ => OV.load rfl (At.ro 0 rfl) rfl tf_scal_3) rfl (fun _ => rfl) rfl rfl ?_
  refine FL.weak (L' := fun γ => [(17, st r_0), (21, zI r_1)]) (fun γ => ⟨rfl, rfl, trivial⟩) (FL.nil (hT_1' (fun γ => [(17, st r_0), (21, zI r_1)]) (fun γ => ?_)))
  obtain ⟨o, h⟩ := h
  refine wv (OV.index rfl rfl tf_str_9 o) ?_
  refine wv (OV.assign rfl) ?_
  refine wv (OV.assign rfl) ?_
  refine WL.nil ?_
  refine KX.go (hK_3' [(2, zU ((r_0.getD r_1.toNat 0).toNat : Int)), (3, zB true)] _ ?_) ⟨rfl, rfl, trivial⟩
  refine wc_ret ?_
  exact hE.ret [] rfl rfl (.inl ⟨_, _, h, rfl⟩) (ResV.of2 rfl (RV.tmp rfl) (RV.tmp rfl))
 ·replace h := if_F h hb
  refine wc_skip ?_
  refine KX.go (hK_1' [] _ ?_) trivial
  refine wc_seq (fun K0_4' hK_4' => ?_)
  refine wc_region ?_
  refine wv (OV.assign rfl) ?_
  refine wv (OV.assign rfl) ?_
  refine WL.nil ?_
  refine KX.go (hK_4' [(2, zU 0), (3, zB false)] _ ?_) ⟨rfl, rfl, trivial⟩
  refine wc_ret ?_
  exact hE.ret [] rfl rfl (.inl ⟨_, _, h, rfl⟩) (ResV.of2 rfl (RV.tmp rfl) (RV.tmp rfl))

def fail_vc (_ : Value) (at0 : Int) (_ : Prop) (KP : Value → Prop) : Prop :=
 KP (Value.iface 26 (Value.agg [zI 10, zI at0, st []].toArray))
set_option maxRecDepth 100000 in
theorem fail_wp  (r : Value) (at0 : Int) (K : Prop) (KP : Value → Prop) (h : fail_vc r at0 K KP) :
  Does Tryd.prog 179 [r, zI at0] [] [] (fun o => (K ∧ o = .ret (Value.tuple #[]) []) ∨ (∃ (pv : Value), KP pv ∧ o = .pan [{ v := pv, recovered := false }] [])) := by
 unfold fail_vc at h
 refine does_of_wc (n := 7) (L0 := [(0, r), (1, zI at0)]) Tryd.func179 rfl rfl rfl rfl (fun w0 M Q hE => ?_)
 refine wc_region ?_
 refine wv (OV.move rfl) ?_
 refine wv (OV.build rfl (cs := [zI 10, zI at0, st []]) rfl) ?_
 refine wv (OV.iface rfl tf_conc_26) ?_
 refine WL.panic rfl rfl ?_
 exact hE.pan [] rfl rfl (.inr ⟨_, h, rfl⟩)

end Go.Proofs.YtohnchdnkbadaaaDoor
namespace Go.Proofs.YtohnchdnkbadaaaDoor
open Go Go.RowKit

def peekB (t : List UInt8) (a : Int) : Int := if a < t.length then ((t.getD a.toNat 0).toNat : Int) else 0
def peekOk (t : List UInt8) (a : Int) : Bool := decide (a < t.length)
def refHex (c : Int) : Int := if 48 ≤ c ∧ c ≤ 57 then c - 48 else if 97 ≤ c ∧ c ≤ 102 then c - 87 else -1

set_option maxRecDepth 100000 in
theorem peek_does (b : Nat) (t : List UInt8) (a : Int) (h : 0 ≤ a) : Does Tryd.prog 178 [.pointer (some ⟨b, 0, none⟩)] [(b, .cells [st t, .int .i64 a].toArray 222 (0, 0))] [] (Ret (.tuple #[.int .u8 (peekB t a), .bool (peekOk t a)]) []) := by
 refine (peek_wp b t a (fun r o => r = peekB t a ∧ o = peekOk t a) ?_).weak ?_
 ·unfold peek_vc peekB peekOk
  by_cases hlt : a < t.length <;> simp [hlt, h]
 ·rintro o (⟨v, v2, ⟨rfl, rfl⟩, rfl⟩ | h)
  ·rfl
  ·exact h.elim
set_option maxRecDepth 100000 in
theorem fail_does (b : Nat) (p : Int) : Does Tryd.prog 179 [.pointer (some ⟨b, 0, none⟩), .int .i64 p] [] [] (fun o => o = .pan [{ v := faultV 10 p, recovered := false }] []) := by
 refine (fail_wp _ p False (fun v => v = faultV 10 p) rfl).weak ?_
 rintro o (⟨h, _⟩ | ⟨v, rfl, rfl⟩)
 ·exact h.elim
 ·rfl

/-- A digit of a stroke's number. -/
def hexM (t : List UInt8) (a : Int) : Except Int (Int × Int) :=
 if a < t.length ∧ 0 ≤ refHex (peekB t a) then .ok (refHex (peekB t a), a + 1) else .error a
/-- What stands behind a stroke. -/
def escM (t : List UInt8) (a : Int) : Except Int (Int × Int) :=
 if a < t.length then
  let c := peekB t a
  if c = 110 then .ok (10, a + 1)
  else if c = 114 then .ok (13, a + 1)
  else if c = 116 then .ok (9, a + 1)
  else if c = 120 then match hexM t (a + 1) with
   | .ok (hi, p) => match hexM t p with
    | .ok (lo, q) => .ok (16 * hi + lo, q)
    | .error e => .error e
   | .error e => .error e
  else if c < 32 ∨ 126 < c ∨ (48 ≤ c ∧ c ≤ 57) ∨ (97 ≤ c ∧ c ≤ 122) ∨ (65 ≤ c ∧ c ≤ 90) then .error a
  else .ok (c, a + 1)
 else .error a
def oneM (t : List UInt8) (a : Int) (bar : List UInt8) : Except Int (Int × Int) :=
 if a < t.length then
  let c := peekB t a
  if c = 92 then escM t (a + 1)
  else if c < 32 ∨ 126 < c ∨ bar.contains c.toNat.toUInt8 = true then .error a
  else .ok (c, a + 1)
 else .error a
end Go.Proofs.YtohnchdnkbadaaaDoor
namespace Go.Proofs.YtohnchdnkbadaaaDoor
open Go Go.RowKit

theorem tf_ent_178 : entB Tryd.prog 178 = true := by kernel_rfl
theorem tf_ent_135 : entB Tryd.prog 135 = true := by kernel_rfl
theorem tf_ent_179 : entB Tryd.prog 179 = true := by kernel_rfl
theorem tf_size_3 : sizeB Tryd.prog 3 1 = true := by kernel_rfl
theorem tf_some_3 : (Tryd.prog.underlying 3).isSome = true := by kernel_rfl
theorem tf_row_214 : RowT Tryd.prog 214 6 := ⟨by kernel_rfl, by kernel_rfl⟩
theorem tf_arr_214 : arrB Tryd.prog 214 213 3 2 = true := by kernel_rfl
theorem tf_row_213 : RowT Tryd.prog 213 2 := ⟨by kernel_rfl, by kernel_rfl⟩
theorem tf_zero_213 : zeroB Tryd.prog 213 = some [zU 0, zU 0] := by kernel_rfl
theorem tf_size_213 : sizeB Tryd.prog 213 2 = true := by kernel_rfl
theorem tf_field_213_0 : fieldOff Tryd.prog 213 0 = some 0 := by kernel_rfl
theorem tf_scal_5 : scalB Tryd.prog 5 = true := by kernel_rfl
theorem tf_field_213_1 : fieldOff Tryd.prog 213 1 = some 1 := by kernel_rfl
theorem tf_ent_182 : entB Tryd.prog 182 = true := by kernel_rfl
theorem tf_ent_181 : entB Tryd.prog 181 = true := by kernel_rfl

def hex_vc (r_0 : List UInt8) (r_1 : Int) (K : Int → (List UInt8) → Int → Prop) (KP : Value → (List UInt8) → Int → Prop) : Prop :=
 (0 ≤ r_1) ∧
 (if ((!(peekOk r_0 r_1)) || (decide (Lib.indexByte ([48, 49, 50, 51, 52, 53, 54, 55, 56, 57, 97, 98, 99, 100, 101, 102] : List UInt8) (peekB r_0 r_1).toNat.toUInt8 < 0))) = true then
  KP (faultV 10 r_1) r_0 r_1
 else
  (I64 (r_1 + 1)) ∧
  K (IntKind.wrap .u8 (Lib.indexByte ([48, 49, 50, 51, 52, 53, 54, 55, 56, 57, 97, 98, 99, 100, 101, 102] : List UInt8) (peekB r_0 r_1).toNat.toUInt8)) r_0 (r_1 + 1))
set_option maxRecDepth 100000 in
theorem hex_wp (b : Nat) (r_0 : List UInt8) (r_1 : Int) (K : Int → (List UInt8) → Int → Prop) (KP : Value → (List UInt8) → Int → Prop) (h : hex_vc r_0 r_1 K KP) :
  Does Tryd.prog 182 [zP b] [] [HA.blk b (.cells [st r_0, zI r_1].toArray 222 (0, 0))] (fun o => (∃ (v : Int) (d_0 : List UInt8) (d_1 : Int), K v d_0 d_1 ∧ o = .ret (zU v) [HA.blk b (.cells [st d_0, zI d_1].toArray 222 (0, 0))]) ∨ (∃ (pv : Value) (d_0 : List UInt8) (d_1 : Int), KP pv d_0 d_1 ∧ o = .pan [{ v := pv, recovered := false }] [HA.blk b (.cells [st d_0, zI d_1].toArray 222 (0, 0))])) := by
 unfold hex_vc at h
 refine does_of_wc (n := 34) (L0 := [(0, zP b)]) Tryd.func182 rfl rfl rfl rfl (fun w0 M Q hE => ?_)
 refine wc_seq (fun K0 hK => ?_)
 refine wc_region ?_
 refine wv (OV.assign rfl) ?_
 refine WL.nil ?_
 refine KX.go (hK [(0, zP b)] _ ?_) ⟨rfl, trivial⟩
 refine wc_seq (fun K0_1' hK_1' => ?_)
 refine wc_region ?_
 refine wv (OV.move rfl) ?_
 obtain ⟨o, h⟩ := h
 refine WL.call (A := []) tf_ent_178 rfl (peek_does b r_0 r_1 o) rfl ⟨.inl ⟨0, rfl⟩, trivial⟩ rfl rfl ?_
 refine wv (OV.move rfl) ?_
 refine wv (OV.extract 0 rfl rfl) ?_
 refine wv (OV.extract 1 rfl rfl) ?_
 refine wv (OV.assign rfl) ?_
 refine wv (OV.assign rfl) ?_
 refine WL.nil ?_
 refine KX.go (hK_1' [(0, zP b), (3, zU (peekB r_0 r_1)), (4, zB (peekOk r_0 r_1))] _ ?_) ⟨rfl, rfl, rfl, trivial⟩
 refine wc_seq (fun K0_2' hK_2' => ?_)
 refine wc_region ?_
 refine wv (OV.move rfl) ?_
 refine WL.call (A := []) tf_ent_135 rfl (indexByte_does ([48, 49, 50, 51, 52, 53, 54, 55, 56, 57, 97, 98, 99, 100, 101, 102] : List UInt8) (peekB r_0 r_1)) rfl trivial rfl rfl ?_
 refine wv (OV.assign rfl) ?_
 refine WL.nil ?_
 refine KX.go (hK_2' [(0, zP b), (4, zB (peekOk r_0 r_1)), (5, zI (Lib.indexByte ([48, 49, 50, 51, 52, 53, 54, 55, 56, 57, 97, 98, 99, 100, 101, 102] : List UInt8) (peekB r_0 r_1).toNat.toUInt8))] _ ?_) ⟨rfl, rfl, rfl, trivial⟩
 refine wc_seq (fun K0_3' hK_3' => ?_)
 refine wc_seq (fun K0_4' hK_4' => ?_)
 refine wc_region ?_
 refine wv (OV.move rfl) ?_
 refine wv (OV.not rfl) ?_
 refine wv (OV.move rfl) ?_
 refine WL.cut 3 [(0, zP b), (5, zI (Lib.indexByte ([48, 49, 50, 51, 52, 53, 54, 55, 56, 57, 97, 98, 99, 100, 101, 102] : List UInt8) (peekB r_0 r_1).toNat.toUInt8)), (18, zB ((!(peekOk r_0 r_1)) || (decide (Lib.indexByte ([48, 49, 50, 51, 52, 53, 54, 55, 56, 57, 97, 98, 99, 100, 101, 102] : List UInt8) (peekB r_0 r_1).toNat.toUInt8 < 0))))] ?_ (fun K0_5' hK_5' => ?_)
 rotate_left
 ·refine WL.split (!(peekOk r_0 r_1)) (fun hb => ?_) (fun hb => ?_)
  ·refine WL.set 15 rfl (congrArg zB hb) ?_
   refine WL.skip rfl rfl rfl ?_
   refine WL.skip rfl rfl rfl ?_
   refine wv (OV.pickT rfl rfl) ?_
   refine WL.set 18 rfl (oT (v := decide (Lib.indexByte ([48, 49, 50, 51, 52, 53, 54, 55, 56, 57, 97, 98, 99, 100, 101, 102] : List UInt8) (peekB r_0 r_1).toNat.toUInt8 < 0)) hb) ?_
   exact WL.end_ (KX.go hK_5' ⟨rfl, rfl, rfl, trivial⟩)
  ·refine WL.set 15 rfl (congrArg zB hb) ?_
   refine wv (OV.move rfl) ?_
   refine wv (OV.lss rfl rfl) ?_
   refine wv (OV.pickF rfl rfl) ?_
   refine WL.set 18 rfl (oF (v := decide (Lib.indexByte ([48, 49, 50, 51, 52, 53, 54, 55, 56, 57, 97, 98, 99, 100, 101, 102] : List UInt8) (peekB r_0 r_1).toNat.toUInt8 < 0)) hb) ?_
   exact WL.end_ (KX.go hK_5' ⟨rfl, rfl, rfl, trivial⟩)
 refine WL.nil ?_
 refine KX.go (hK_4' [(0, zP b), (5, zI (Lib.indexByte ([48, 49, 50, 51, 52, 53, 54, 55, 56, 57, 97, 98, 99, 100, 101, 102] : List UInt8) (peekB r_0 r_1).toNat.toUInt8)), (18, zB ((!(peekOk r_0 r_1)) || (decide (Lib.indexByte ([48, 49, 50, 51, 52, 53, 54, 55, 56, 57, 97, 98, 99, 100, 101, 102] : List UInt8) (peekB r_0 r_1).toNat.toUInt8 < 0))))] _ ?_) ⟨rfl, rfl, rfl, trivial⟩
 refine wc_cond (b := (!(peekOk r_0 r_1)) || (decide (Lib.indexByte ([48, 49, 50, 51, 52, 53, 54, 55, 56, 57, 97, 98, 99, 100, 101, 102] : List UInt8) (peekB r_0 r_1).toNat.toUInt8 < 0))) rfl (fun hb => ?_) (fun hb => ?_)
 ·replace h := if_T h hb
  refine wc_region ?_
  refine wv (OV.move rfl) ?_
  refine wv (OV.move rfl) ?_
  refine wv (OV.nilCheck rfl) ?_
  refine wv (OV.fieldAddr0 rfl tf_field_222_1) ?_
  refine wv (OV.load rfl (At.own 0 rfl) rfl tf_scal_3) ?_
  refine WL.callS tf_ent_179 rfl (fail_does b r_1) rfl trivial rfl rfl (fun r H' hS => by cases hS) (fun c H' hS => ?_)
  cases hS
  exact hE.pan [0] rfl rfl (.inr ⟨_, _, _, h, rfl⟩)
 ·replace h := if_F h hb
  refine wc_skip ?_
  refine KX.go (hK_3' [(0, zP b), (5, zI (Lib.indexByte ([48, 49, 50, 51, 52, 53, 54, 55, 56, 57, 97, 98, 99, 100, 101, 102] : List UInt8) (peekB r_0 r_1).toNat.toUInt8))] _ ?_) ⟨rfl, rfl, trivial⟩
  refine wc_seq (fun K0_6' hK_6' => ?_)
  refine wc_region ?_
  refine wv (OV.move rfl) ?_
  refine wv (OV.nilCheck rfl) ?_
  refine wv (OV.fieldAddr0 rfl tf_field_222_1) ?_
  refine wv (OV.load rfl (At.own 0 rfl) rfl tf_scal_3) ?_
  obtain ⟨o_2', h⟩ := h
  refine wv (OV.add rfl rfl o_2') ?_
  refine wv (OV.nilCheck rfl) ?_
  refine wv (OV.fieldAddr0 rfl tf_field_222_1) ?_
  refine WL.store (vs := [zI (r_1 + 1)]) (cs' := [st r_0, zI (r_1 + 1)]) 0 rfl rfl rfl rfl tf_size_3 (Nat.le_of_ble_eq_true rfl) rfl rfl rfl ?_
  refine WL.nil ?_
  refine KX.go (hK_6' [(5, zI (Lib.indexByte ([48, 49, 50, 51, 52, 53, 54, 55, 56, 57, 97, 98, 99, 100, 101, 102] : List UInt8) (peekB r_0 r_1).toNat.toUInt8))] _ ?_) ⟨rfl, trivial⟩
  refine wc_seq (fun K0_7' hK_7' => ?_)
  refine wc_region ?_
  refine wv (OV.move rfl) ?_
  refine wv (OV.conv rfl tf_some_3 Tryd.underlying5) ?_
  refine wv (OV.assign rfl) ?_
  refine WL.nil ?_
  refine KX.go (hK_7' [(2, zU (IntKind.wrap .u8 (Lib.indexByte ([48, 49, 50, 51, 52, 53, 54, 55, 56, 57, 97, 98, 99, 100, 101, 102] : List UInt8) (peekB r_0 r_1).toNat.toUInt8)))] _ ?_) ⟨rfl, trivial⟩
  refine wc_ret ?_
  exact hE.ret [0] rfl rfl (.inl ⟨_, _, _, h, rfl⟩) (ResV.of1 rfl (RV.tmp rfl))

set_option maxRecDepth 100000 in
theorem idx_hex (c : Int) (h : 0 ≤ c ∧ c < 256) : Lib.indexByte [48, 49, 50, 51, 52, 53, 54, 55, 56, 57, 97, 98, 99, 100, 101, 102] c.toNat.toUInt8 = refHex c := by
 obtain ⟨n, hn, rfl⟩ := nat_of h
 simp only [Int.toNat_natCast]
 revert n; decide
theorem peekB_bd (t : List UInt8) (a : Int) : 0 ≤ peekB t a ∧ peekB t a < 256 := by
 unfold peekB
 split
 ·have := (t.getD a.toNat 0).toNat_lt; omega
 ·omega
theorem refHex_bd {c : Int} : -1 ≤ refHex c ∧ refHex c ≤ 15 := by unfold refHex; split <;> (try split) <;> omega
abbrev rdBlk (b : Nat) (t : List UInt8) (a : Int) : HA := .blk b (.cells [st t, .int .i64 a].toArray 222 (0, 0))
/-- What a reading function comes to: a value and a place, or a fault. -/
def RdOut (b : Nat) (t : List UInt8) (enc : Int → Value) (m : Except Int (Int × Int)) : Out → Prop := fun o =>
 (∃ r q, m = .ok (r, q) ∧ o = .ret (enc r) [rdBlk b t q]) ∨ (∃ e q, m = .error e ∧ o = .pan [{ v := faultV 10 e, recovered := false }] [rdBlk b t q])
theorem hex_does (b : Nat) (t : List UInt8) (a : Int) (h : 0 ≤ a ∧ a ≤ t.length ∧ t.length ≤ 9223372036854775807) : Does Tryd.prog 182 [.pointer (some ⟨b, 0, none⟩)] [] [rdBlk b t a] (RdOut b t (fun r => .int .u8 r) (hexM t a)) := by
 refine (hex_wp b t a (fun r t' q => t' = t ∧ hexM t a = .ok (r, q)) (fun v t' _ => t' = t ∧ ∃ e, hexM t a = .error e ∧ v = faultV 10 e) ?_).weak ?_
 ·have hb := peekB_bd t a
  have hr := refHex_bd (c := peekB t a)
  unfold hex_vc
  rw [idx_hex _ hb]
  unfold hexM peekOk
  refine ⟨h.1, ?_⟩
  by_cases h1 : a < t.length ∧ 0 ≤ refHex (peekB t a)
  ·rw [if_neg (by simp; omega), IntWalk.u8_in _ (by omega), if_pos h1]
   exact ⟨⟨by omega, by omega⟩, rfl, rfl⟩
  ·rw [if_pos (by simp; omega), if_neg h1]
   exact ⟨rfl, _, rfl, rfl⟩
 ·rintro o (⟨r, t', q, ⟨rfl, hm⟩, rfl⟩ | ⟨v, t', q, ⟨rfl, e, hm, rfl⟩, rfl⟩)
  ·exact .inl ⟨r, q, hm, rfl⟩
  ·exact .inr ⟨e, q, hm, rfl⟩

def escape_vc (r_0 : List UInt8) (r_1 : Int) (K : Int → (List UInt8) → Int → Prop) (KP : Value → (List UInt8) → Int → Prop) : Prop :=
 (0 ≤ r_1) ∧
 (if (!(peekOk r_0 r_1)) = true then
  KP (faultV 10 r_1) r_0 r_1
 else
  (if (decide (110 = peekB r_0 r_1)) = true then
   (I64 (r_1 + 1)) ∧
   K 10 r_0 (r_1 + 1)
  else
   (if (decide (114 = peekB r_0 r_1)) = true then
    (I64 (r_1 + 1)) ∧
    K 13 r_0 (r_1 + 1)
   else
    (if (decide (116 = peekB r_0 r_1)) = true then
     (I64 (r_1 + 1)) ∧
     K 9 r_0 (r_1 + 1)
    else
     (if (decide (peekB r_0 r_1 = 120)) = true then
      (I64 (r_1 + 1)) ∧
      (0 ≤ r_1 + 1 ∧ r_1 + 1 ≤ r_0.length ∧ r_0.length ≤ 9223372036854775807) ∧
      (∀ (r_1' : Int) (at0 : Int), hexM r_0 (r_1 + 1) = .ok (r_1', at0) →
       (0 ≤ at0 ∧ at0 ≤ r_0.length ∧ r_0.length ≤ 9223372036854775807) ∧
       (∀ (r_2' : Int) (at0_2' : Int), hexM r_0 at0 = .ok (r_2', at0_2') →
        K (bits .or .u8 (IntKind.wrap .u8 (r_1' * 2 ^ (4 : Int).toNat)) r_2') r_0 at0_2') ∧
       (∀ (e_1' : Int) (at0_3' : Int), hexM r_0 at0 = .error e_1' →
        KP (faultV 10 e_1') r_0 at0_3')) ∧
      (∀ (e : Int) (at0_1' : Int), hexM r_0 (r_1 + 1) = .error e →
       KP (faultV 10 e) r_0 at0_1')
     else
      (if (((((decide (peekB r_0 r_1 < 32)) || (decide (126 < peekB r_0 r_1))) || ((decide (48 ≤ peekB r_0 r_1)) && (decide (peekB r_0 r_1 ≤ 57)))) || ((decide (97 ≤ peekB r_0 r_1)) && (decide (peekB r_0 r_1 ≤ 122)))) || ((decide (65 ≤ peekB r_0 r_1)) && (decide (peekB r_0 r_1 ≤ 90)))) = true then
       KP (faultV 10 r_1) r_0 r_1
      else
       (I64 (r_1 + 1)) ∧
       K (peekB r_0 r_1) r_0 (r_1 + 1)))))))
set_option maxRecDepth 100000 in
theorem escape_wp (b : Nat) (te : TypeId) (fre : Nat × Nat) (r_0 : List UInt8) (r_1 : Int) (K : Int → (List UInt8) → Int → Prop) (KP : Value → (List UInt8) → Int → Prop) (h : escape_vc r_0 r_1 K KP) :
  Does Tryd.prog 181 [zP b] [(1, .cells [zU 110, zU 10, zU 114, zU 13, zU 116, zU 9].toArray te fre)] [HA.blk b (.cells [st r_0, zI r_1].toArray 222 (0, 0))] (fun o => (∃ (v : Int) (d_0 : List UInt8) (d_1 : Int), K v d_0 d_1 ∧ o = .ret (zU v) [HA.blk b (.cells [st d_0, zI d_1].toArray 222 (0, 0))]) ∨ (∃ (pv : Value) (d_0 : List UInt8) (d_1 : Int), KP pv d_0 d_1 ∧ o = .pan [{ v := pv, recovered := false }] [HA.blk b (.cells [st d_0, zI d_1].toArray 222 (0, 0))])) := by
 unfold escape_vc at h
 refine does_of_wc (n := 99) (L0 := [(0, zP b)]) Tryd.func181 rfl rfl rfl rfl (fun w0 M Q hE => ?_)
 refine wc_seq (fun K0 hK => ?_)
 refine wc_region ?_
 refine wv (OV.assign rfl) ?_
 refine WL.nil ?_
 refine KX.go (hK [(0, zP b)] _ ?_) ⟨rfl, trivial⟩
 refine wc_seq (fun K0_1' hK_1' => ?_)
 refine wc_region ?_
 refine wv (OV.move rfl) ?_
 obtain ⟨o, h⟩ := h
 refine WL.call (A := []) tf_ent_178 rfl (peek_does b r_0 r_1 o) rfl ⟨.inl ⟨0, rfl⟩, trivial⟩ rfl rfl ?_
 refine wv (OV.move rfl) ?_
 refine wv (OV.extract 0 rfl rfl) ?_
 refine wv (OV.extract 1 rfl rfl) ?_
 refine wv (OV.assign rfl) ?_
 refine wv (OV.assign rfl) ?_
 refine WL.nil ?_
 refine KX.go (hK_1' [(0, zP b), (3, zU (peekB r_0 r_1)), (4, zB (peekOk r_0 r_1))] _ ?_) ⟨rfl, rfl, rfl, trivial⟩
 refine wc_seq (fun K0_2' hK_2' => ?_)
 refine wc_seq (fun K0_3' hK_3' => ?_)
 refine wc_region ?_
 refine wv (OV.move rfl) ?_
 refine wv (OV.not rfl) ?_
 refine WL.nil ?_
 refine KX.go (hK_3' [(0, zP b), (3, zU (peekB r_0 r_1)), (14, zB (!(peekOk r_0 r_1)))] _ ?_) ⟨rfl, rfl, rfl, trivial⟩
 refine wc_cond (b := !(peekOk r_0 r_1)) rfl (fun hb => ?_) (fun hb => ?_)
 ·replace h := if_T h hb
  refine wc_region ?_
  refine wv (OV.move rfl) ?_
  refine wv (OV.move rfl) ?_
  refine wv (OV.nilCheck rfl) ?_
  refine wv (OV.fieldAddr0 rfl tf_field_222_1) ?_
  refine wv (OV.load rfl (At.own 0 rfl) rfl tf_scal_3) ?_
  refine WL.callS tf_ent_179 rfl (fail_does b r_1) rfl trivial rfl rfl (fun r H' hS => by cases hS) (fun c H' hS => ?_)
  cases hS
  exact hE.pan [0] rfl rfl (.inr ⟨_, _, _, h, rfl⟩)
 ·replace h := if_F h hb
  refine wc_skip ?_
  refine KX.go (hK_2' [(0, zP b), (3, zU (peekB r_0 r_1))] _ ?_) ⟨rfl, rfl, trivial⟩
  refine wc_seq (fun K0_4' hK_4' => ?_)
  refine wc_seq (fun K0_5' hK_5' => ?_)
  refine wc_region ?_
  refine wv (OV.loadR rfl (At.ro 0 rfl) tf_row_214) ?_
  refine wv (OV.move rfl) ?_
  refine WL.nil ?_
  refine KX.go (hK_5' [(0, zP b), (3, zU (peekB r_0 r_1)), (21, Value.agg [zU 110, zU 10, zU 114, zU 13, zU 116, zU 9].toArray), (22, zI 0)] _ ?_) ⟨rfl, rfl, rfl, rfl, trivial⟩
  refine wc_block ?_
  refine wc_rounds 4 ?_
  refine RC.succ (fun K0_6' hK_6' => ?_)
  refine wc_seq (fun K0_7' hK_7' => ?_)
  refine wc_region ?_
  refine wv (OV.lss rfl rfl) ?_
  refine WL.nil ?_
  refine KX.go (hK_7' [(0, zP b), (3, zU (peekB r_0 r_1)), (21, Value.agg [zU 110, zU 10, zU 114, zU 13, zU 116, zU 9].toArray), (22, zI 0), (23, zB true)] _ ?_) ⟨rfl, rfl, rfl, rfl, rfl, trivial⟩
  refine wc_seq (fun K0_8' hK_8' => ?_)
  refine wc_condT rfl ?_
  refine wc_skip ?_
  refine KX.go (hK_8' [(0, zP b), (3, zU (peekB r_0 r_1)), (21, Value.agg [zU 110, zU 10, zU 114, zU 13, zU 116, zU 9].toArray), (22, zI 0)] _ ?_) ⟨rfl, rfl, rfl, rfl, trivial⟩
  refine wc_seq (fun K0_9' hK_9' => ?_)
  refine wc_block ?_
  refine wc_seq (fun K0_10' hK_10' => ?_)
  refine wc_region ?_
  refine wv (OV.indexM (vs := [zU 110, zU 10]) rfl rfl tf_arr_214 (by decide) tf_row_213 rfl) ?_
  refine WL.make (MV.alloc tf_zero_213) rfl rfl rfl (fun b_1' => ?_)
  refine WL.storeW (vs := [zU 110, zU 10]) 0 rfl rfl rfl rfl rfl tf_size_213 rfl rfl rfl ?_
  refine WL.nil ?_
  refine KX.go (hK_10' [(0, zP b), (3, zU (peekB r_0 r_1)), (6, zP b_1'), (21, Value.agg [zU 110, zU 10, zU 114, zU 13, zU 116, zU 9].toArray), (22, zI 0)] _ ?_) ⟨rfl, rfl, rfl, rfl, rfl, trivial⟩
  refine wc_seq (fun K0_11' hK_11' => ?_)
  refine wc_region ?_
  refine wv (OV.fieldAddr0 rfl tf_field_213_0) ?_
  refine wv (OV.load rfl (At.own 0 rfl) rfl tf_scal_5) ?_
  refine wv (OV.move rfl) ?_
  refine wv (OV.eql rfl rfl) ?_
  refine WL.nil ?_
  refine KX.go (hK_11' [(0, zP b), (3, zU (peekB r_0 r_1)), (6, zP b_1'), (21, Value.agg [zU 110, zU 10, zU 114, zU 13, zU 116, zU 9].toArray), (22, zI 0), (28, zB (decide (110 = peekB r_0 r_1)))] _ ?_) ⟨rfl, rfl, rfl, rfl, rfl, rfl, trivial⟩
  refine wc_cond (b := decide (110 = peekB r_0 r_1)) rfl (fun hb => ?_) (fun hb => ?_)
  ·replace h := if_T h hb
   refine wc_seq (fun K0_12' hK_12' => ?_)
   refine wc_region ?_
   refine wv (OV.move rfl) ?_
   refine wv (OV.nilCheck rfl) ?_
   refine wv (OV.fieldAddr0 rfl tf_field_222_1) ?_
   refine wv (OV.load rfl (At.own 1 rfl) rfl tf_scal_3) ?_
   obtain ⟨o_1', h⟩ := h
   refine wv (OV.add rfl rfl o_1') ?_
   refine wv (OV.nilCheck rfl) ?_
   refine wv (OV.fieldAddr0 rfl tf_field_222_1) ?_
   refine WL.store (vs := [zI (r_1 + 1)]) (cs' := [st r_0, zI (r_1 + 1)]) 1 rfl rfl rfl rfl tf_size_3 (Nat.le_of_ble_eq_true rfl) rfl rfl rfl ?_
   refine WL.nil ?_
   refine KX.go (hK_12' [(6, zP b_1')] _ ?_) ⟨rfl, trivial⟩
   refine wc_seq (fun K0_13' hK_13' => ?_)
   refine wc_region ?_
   refine wv (OV.fieldAddr0 rfl tf_field_213_1) ?_
   refine wv (OV.load rfl (At.own 0 rfl) rfl tf_scal_5) ?_
   refine wv (OV.assign rfl) ?_
   refine WL.nil ?_
   refine KX.go (hK_13' [(2, zU 10)] _ ?_) ⟨rfl, trivial⟩
   refine wc_ret ?_
   exact hE.ret [1] rfl rfl (.inl ⟨_, _, _, h, rfl⟩) (ResV.of1 rfl (RV.tmp rfl))
  ·replace h := if_F h hb
   refine wc_skip ?_
   refine KX.go (hK_9' [(0, zP b), (3, zU (peekB r_0 r_1)), (21, Value.agg [zU 110, zU 10, zU 114, zU 13, zU 116, zU 9].toArray), (22, zI 0)] _ ?_) ⟨rfl, rfl, rfl, rfl, trivial⟩
   refine wc_region ?_
   refine wv (OV.add rfl rfl ⟨by decide, by decide⟩) ?_
   refine wv (OV.move rfl) ?_
   refine WL.nil ?_
   refine KX.go (hK_6' [(0, zP b), (3, zU (peekB r_0 r_1)), (21, Value.agg [zU 110, zU 10, zU 114, zU 13, zU 116, zU 9].toArray), (22, zI 1)] _ ?_) ⟨rfl, rfl, rfl, rfl, trivial⟩
   refine RC.succ (fun K0_14' hK_14' => ?_)
   refine wc_seq (fun K0_15' hK_15' => ?_)
   refine wc_region ?_
   refine wv (OV.lss rfl rfl) ?_
   refine WL.nil ?_
   refine KX.go (hK_15' [(0, zP b), (3, zU (peekB r_0 r_1)), (21, Value.agg [zU 110, zU 10, zU 114, zU 13, zU 116, zU 9].toArray), (22, zI 1), (23, zB true)] _ ?_) ⟨rfl, rfl, rfl, rfl, rfl, trivial⟩
   refine wc_seq (fun K0_16' hK_16' => ?_)
   refine wc_condT rfl ?_
   refine wc_skip ?_
   refine KX.go (hK_16' [(0, zP b), (3, zU (peekB r_0 r_1)), (21, Value.agg [zU 110, zU 10, zU 114, zU 13, zU 116, zU 9].toArray), (22, zI 1)] _ ?_) ⟨rfl, rfl, rfl, rfl, trivial⟩
   refine wc_seq (fun K0_17' hK_17' => ?_)
   refine wc_block ?_
   refine wc_seq (fun K0_18' hK_18' => ?_)
   refine wc_region ?_
   refine wv (OV.indexM (vs := [zU 114, zU 13]) rfl rfl tf_arr_214 (by decide) tf_row_213 rfl) ?_
   refine WL.make (MV.alloc tf_zero_213) rfl rfl rfl (fun b_2' => ?_)
   refine WL.storeW (vs := [zU 114, zU 13]) 0 rfl rfl rfl rfl rfl tf_size_213 rfl rfl rfl ?_
   refine WL.nil ?_
   refine KX.go (hK_18' [(0, zP b), (3, zU (peekB r_0 r_1)), (6, zP b_2'), (21, Value.agg [zU 110, zU 10, zU 114, zU 13, zU 116, zU 9].toArray), (22, zI 1)] _ ?_) ⟨rfl, rfl, rfl, rfl, rfl, trivial⟩
   refine wc_seq (fun K0_19' hK_19' => ?_)
   refine wc_region ?_
   refine wv (OV.fieldAddr0 rfl tf_field_213_0) ?_
   refine wv (OV.load rfl (At.own 0 rfl) rfl tf_scal_5) ?_
   refine wv (OV.move rfl) ?_
   refine wv (OV.eql rfl rfl) ?_
   refine WL.nil ?_
   refine KX.go (hK_19' [(0, zP b), (3, zU (peekB r_0 r_1)), (6, zP b_2'), (21, Value.agg [zU 110, zU 10, zU 114, zU 13, zU 116, zU 9].toArray), (22, zI 1), (28, zB (decide (114 = peekB r_0 r_1)))] _ ?_) ⟨rfl, rfl, rfl, rfl, rfl, rfl, trivial⟩
   refine wc_cond (b := decide (114 = peekB r_0 r_1)) rfl (fun hb => ?_) (fun hb => ?_)
   ·replace h := if_T h hb
    refine wc_seq (fun K0_20' hK_20' => ?_)
    refine wc_region ?_
    refine wv (OV.move rfl) ?_
    refine wv (OV.nilCheck rfl) ?_
    refine wv (OV.fieldAddr0 rfl tf_field_222_1) ?_
    refine wv (OV.load rfl (At.own 2 rfl) rfl tf_scal_3) ?_
    obtain ⟨o_2', h⟩ := h
    refine wv (OV.add rfl rfl o_2') ?_
    refine wv (OV.nilCheck rfl) ?_
    refine wv (OV.fieldAddr0 rfl tf_field_222_1) ?_
    refine WL.store (vs := [zI (r_1 + 1)]) (cs' := [st r_0, zI (r_1 + 1)]) 2 rfl rfl rfl rfl tf_size_3 (Nat.le_of_ble_eq_true rfl) rfl rfl rfl ?_
    refine WL.nil ?_
    refine KX.go (hK_20' [(6, zP b_2')] _ ?_) ⟨rfl, trivial⟩
    refine wc_seq (fun K0_21' hK_21' => ?_)
    refine wc_region ?_
    refine wv (OV.fieldAddr0 rfl tf_field_213_1) ?_
    refine wv (OV.load rfl (At.own 0 rfl) rfl tf_scal_5) ?_
    refine wv (OV.assign rfl) ?_
    refine WL.nil ?_
    refine KX.go (hK_21' [(2, zU 13)] _ ?_) ⟨rfl, trivial⟩
    refine wc_ret ?_
    exact hE.ret [2] rfl rfl (.inl ⟨_, _, _, h, rfl⟩) (ResV.of1 rfl (RV.tmp rfl))
   ·replace h := if_F h hb
    refine wc_skip ?_
    refine KX.go (hK_17' [(0, zP b), (3, zU (peekB r_0 r_1)), (21, Value.agg [zU 110, zU 10, zU 114, zU 13, zU 116, zU 9].toArray), (22, zI 1)] _ ?_) ⟨rfl, rfl, rfl, rfl, trivial⟩
    refine wc_region ?_
    refine wv (OV.add rfl rfl ⟨by decide, by decide⟩) ?_
    refine wv (OV.move rfl) ?_
    refine WL.nil ?_
    refine KX.go (hK_14' [(0, zP b), (3, zU (peekB r_0 r_1)), (21, Value.agg [zU 110, zU 10, zU 114, zU 13, zU 116, zU 9].toArray), (22, zI 2)] _ ?_) ⟨rfl, rfl, rfl, rfl, trivial⟩
    refine RC.succ (fun K0_22' hK_22' => ?_)
    refine wc_seq (fun K0_23' hK_23' => ?_)
    refine wc_region ?_
    refine wv (OV.lss rfl rfl) ?_
    refine WL.nil ?_
    refine KX.go (hK_23' [(0, zP b), (3, zU (peekB r_0 r_1)), (21, Value.agg [zU 110, zU 10, zU 114, zU 13, zU 116, zU 9].toArray), (22, zI 2), (23, zB true)] _ ?_) ⟨rfl, rfl, rfl, rfl, rfl, trivial⟩
    refine wc_seq (fun K0_24' hK_24' => ?_)
    refine wc_condT rfl ?_
    refine wc_skip ?_
    refine KX.go (hK_24' [(0, zP b), (3, zU (peekB r_0 r_1)), (21, Value.agg [zU 110, zU 10, zU 114, zU 13, zU 116, zU 9].toArray), (22, zI 2)] _ ?_) ⟨rfl, rfl, rfl, rfl, trivial⟩
    refine wc_seq (fun K0_25' hK_25' => ?_)
    refine wc_block ?_
    refine wc_seq (fun K0_26' hK_26' => ?_)
    refine wc_region ?_
    refine wv (OV.indexM (vs := [zU 116, zU 9]) rfl rfl tf_arr_214 (by decide) tf_row_213 rfl) ?_
    refine WL.make (MV.alloc tf_zero_213) rfl rfl rfl (fun b_3' => ?_)
    refine WL.storeW (vs := [zU 116, zU 9]) 0 rfl rfl rfl rfl rfl tf_size_213 rfl rfl rfl ?_
    refine WL.nil ?_
    refine KX.go (hK_26' [(0, zP b), (3, zU (peekB r_0 r_1)), (6, zP b_3'), (21, Value.agg [zU 110, zU 10, zU 114, zU 13, zU 116, zU 9].toArray), (22, zI 2)] _ ?_) ⟨rfl, rfl, rfl, rfl, rfl, trivial⟩
    refine wc_seq (fun K0_27' hK_27' => ?_)
    refine wc_region ?_
    refine wv (OV.fieldAddr0 rfl tf_field_213_0) ?_
    refine wv (OV.load rfl (At.own 0 rfl) rfl tf_scal_5) ?_
    refine wv (OV.move rfl) ?_
    refine wv (OV.eql rfl rfl) ?_
    refine WL.nil ?_
    refine KX.go (hK_27' [(0, zP b), (3, zU (peekB r_0 r_1)), (6, zP b_3'), (21, Value.agg [zU 110, zU 10, zU 114, zU 13, zU 116, zU 9].toArray), (22, zI 2), (28, zB (decide (116 = peekB r_0 r_1)))] _ ?_) ⟨rfl, rfl, rfl, rfl, rfl, rfl, trivial⟩
    refine wc_cond (b := decide (116 = peekB r_0 r_1)) rfl (fun hb => ?_) (fun hb => ?_)
    ·replace h := if_T h hb
     refine wc_seq (fun K0_28' hK_28' => ?_)
     refine wc_region ?_
     refine wv (OV.move rfl) ?_
     refine wv (OV.nilCheck rfl) ?_
     refine wv (OV.fieldAddr0 rfl tf_field_222_1) ?_
     refine wv (OV.load rfl (At.own 3 rfl) rfl tf_scal_3) ?_
     obtain ⟨o_3', h⟩ := h
     refine wv (OV.add rfl rfl o_3') ?_
     refine wv (OV.nilCheck rfl) ?_
     refine wv (OV.fieldAddr0 rfl tf_field_222_1) ?_
     refine WL.store (vs := [zI (r_1 + 1)]) (cs' := [st r_0, zI (r_1 + 1)]) 3 rfl rfl rfl rfl tf_size_3 (Nat.le_of_ble_eq_true rfl) rfl rfl rfl ?_
     refine WL.nil ?_
     refine KX.go (hK_28' [(6, zP b_3')] _ ?_) ⟨rfl, trivial⟩
     refine wc_seq (fun K0_29' hK_29' => ?_)
     refine wc_region ?_
     refine wv (OV.fieldAddr0 rfl tf_field_213_1) ?_
     refine wv (OV.load rfl (At.own 0 rfl) rfl tf_scal_5) ?_
     refine wv (OV.assign rfl) ?_
     refine WL.nil ?_
     refine KX.go (hK_29' [(2, zU 9)] _ ?_) ⟨rfl, trivial⟩
     refine wc_ret ?_
     exact hE.ret [3] rfl rfl (.inl ⟨_, _, _, h, rfl⟩) (ResV.of1 rfl (RV.tmp rfl))
    ·replace h := if_F h hb
     refine wc_skip ?_
     refine KX.go (hK_25' [(0, zP b), (3, zU (peekB r_0 r_1)), (21, Value.agg [zU 110, zU 10, zU 114, zU 13, zU 116, zU 9].toArray), (22, zI 2)] _ ?_) ⟨rfl, rfl, rfl, rfl, trivial⟩
     refine wc_region ?_
     refine wv (OV.add rfl rfl ⟨by decide, by decide⟩) ?_
     refine wv (OV.move rfl) ?_
     refine WL.nil ?_
     refine KX.go (hK_22' [(0, zP b), (3, zU (peekB r_0 r_1)), (21, Value.agg [zU 110, zU 10, zU 114, zU 13, zU 116, zU 9].toArray), (22, zI 3)] _ ?_) ⟨rfl, rfl, rfl, rfl, trivial⟩
     refine RC.succ (fun K0_30' hK_30' => ?_)
     refine wc_seq (fun K0_31' hK_31' => ?_)
     refine wc_region ?_
     refine wv (OV.lss rfl rfl) ?_
     refine WL.nil ?_
     refine KX.go (hK_31' [(0, zP b), (3, zU (peekB r_0 r_1)), (21, Value.agg [zU 110, zU 10, zU 114, zU 13, zU 116, zU 9].toArray), (22, zI 3), (23, zB false)] _ ?_) ⟨rfl, rfl, rfl, rfl, rfl, trivial⟩
     refine wc_seq (fun K0_32' hK_32' => ?_)
     refine wc_condF rfl ?_
     refine wc_exit ?_
     refine KX.go (hK_4' [(0, zP b), (3, zU (peekB r_0 r_1))] _ ?_) ⟨rfl, rfl, trivial⟩
     refine wc_seq (fun K0_33' hK_33' => ?_)
     refine wc_seq (fun K0_34' hK_34' => ?_)
     refine wc_region ?_
     refine wv (OV.move rfl) ?_
     refine wv (OV.eql rfl rfl) ?_
     refine WL.nil ?_
     refine KX.go (hK_34' [(0, zP b), (3, zU (peekB r_0 r_1)), (40, zB (decide (peekB r_0 r_1 = 120)))] _ ?_) ⟨rfl, rfl, rfl, trivial⟩
     refine wc_cond (b := decide (peekB r_0 r_1 = 120)) rfl (fun hb => ?_) (fun hb => ?_)
     ·replace h := if_T h hb
      refine wc_seq (fun K0_35' hK_35' => ?_)
      refine wc_region ?_
      refine wv (OV.move rfl) ?_
      refine wv (OV.nilCheck rfl) ?_
      refine wv (OV.fieldAddr0 rfl tf_field_222_1) ?_
      refine wv (OV.load rfl (At.own 3 rfl) rfl tf_scal_3) ?_
      obtain ⟨o_4', h⟩ := h
      refine wv (OV.add rfl rfl o_4') ?_
      refine wv (OV.nilCheck rfl) ?_
      refine wv (OV.fieldAddr0 rfl tf_field_222_1) ?_
      refine WL.store (vs := [zI (r_1 + 1)]) (cs' := [st r_0, zI (r_1 + 1)]) 3 rfl rfl rfl rfl tf_size_3 (Nat.le_of_ble_eq_true rfl) rfl rfl rfl ?_
      refine WL.nil ?_
      refine KX.go (hK_35' [(0, zP b)] _ ?_) ⟨rfl, trivial⟩
      refine wc_seq (fun K0_36' hK_36' => ?_)
      refine wc_region ?_
      refine wv (OV.move rfl) ?_
      obtain ⟨o_5', h⟩ := h
      refine WL.pick (H' := [HA.blk b (.cells [st r_0, zI (r_1 + 1)].toArray 222 (0, 0)), HA.blk b_3' (.cells [zU 116, zU 9].toArray 213 (0, 0)), HA.blk b_2' (.cells [zU 114, zU 13].toArray 213 (0, 0)), HA.blk b_1' (.cells [zU 110, zU 10].toArray 213 (0, 0))]) [3, 0, 1, 2] rfl rfl ?_
      refine WL.callS tf_ent_182 rfl (hex_does b r_0 (r_1 + 1) o_5') rfl trivial rfl rfl (fun r H' hS => ?_) (fun c H' hS => ?_)
      ·rcases hS with ⟨r_1', at0, hc, ho⟩ | ⟨e, at0_1', hc, ho⟩ <;> cases ho
       replace h := h.1 r_1' at0 hc
       refine wv (OV.assign rfl) ?_
       refine WL.nil ?_
       refine KX.go (hK_36' [(0, zP b), (7, zU r_1')] _ ?_) ⟨rfl, rfl, trivial⟩
       refine wc_seq (fun K0_37' hK_37' => ?_)
       refine wc_region ?_
       refine wv (OV.move rfl) ?_
       refine wv (OV.shl rfl rfl ⟨by decide, by decide⟩) ?_
       refine wv (OV.move rfl) ?_
       obtain ⟨o_6', h⟩ := h
       refine WL.callS tf_ent_182 rfl (hex_does b r_0 at0 o_6') rfl trivial rfl rfl (fun r H' hS => ?_) (fun c H' hS => ?_)
       ·rcases hS with ⟨r_2', at0_2', hc, ho⟩ | ⟨e_1', at0_3', hc, ho⟩ <;> cases ho
        replace h := h.1 r_2' at0_2' hc
        refine wv (OV.bits_or rfl rfl) ?_
        refine wv (OV.assign rfl) ?_
        refine WL.nil ?_
        refine KX.go (hK_37' [(2, zU (bits .or .u8 (IntKind.wrap .u8 (r_1' * 2 ^ (4 : Int).toNat)) r_2'))] _ ?_) ⟨rfl, trivial⟩
        refine wc_ret ?_
        exact hE.ret [0] rfl rfl (.inl ⟨_, _, _, h, rfl⟩) (ResV.of1 rfl (RV.tmp rfl))
       ·rcases hS with ⟨r_2', at0_2', hc, ho⟩ | ⟨e_1', at0_3', hc, ho⟩ <;> cases ho
        replace h := h.2 e_1' at0_3' hc
        exact hE.pan [0] rfl rfl (.inr ⟨_, _, _, h, rfl⟩)
      ·rcases hS with ⟨r_1', at0, hc, ho⟩ | ⟨e, at0_1', hc, ho⟩ <;> cases ho
       replace h := h.2 e at0_1' hc
       exact hE.pan [0] rfl rfl (.inr ⟨_, _, _, h, rfl⟩)
     ·replace h := if_F h hb
      refine wc_skip ?_
      refine KX.go (hK_33' [(0, zP b), (3, zU (peekB r_0 r_1))] _ ?_) ⟨rfl, rfl, trivial⟩
      refine wc_seq (fun K0_38' hK_38' => ?_)
      refine wc_seq (fun K0_39' hK_39' => ?_)
      refine wc_region ?_
      refine wv (OV.move rfl) ?_
      refine wv (OV.lss rfl rfl) ?_
      refine wv (OV.move rfl) ?_
      refine WL.cut 3 [(0, zP b), (3, zU (peekB r_0 r_1)), (60, zB ((decide (peekB r_0 r_1 < 32)) || (decide (126 < peekB r_0 r_1))))] ?_ (fun K0_40' hK_40' => ?_)
      rotate_left
      ·refine WL.split (decide (peekB r_0 r_1 < 32)) (fun hb => ?_) (fun hb => ?_)
       ·refine WL.set 57 rfl (congrArg zB hb) ?_
        refine WL.skip rfl rfl rfl ?_
        refine WL.skip rfl rfl rfl ?_
        refine wv (OV.pickT rfl rfl) ?_
        refine WL.set 60 rfl (oT (v := decide (126 < peekB r_0 r_1)) hb) ?_
        exact WL.end_ (KX.go hK_40' ⟨rfl, rfl, rfl, trivial⟩)
       ·refine WL.set 57 rfl (congrArg zB hb) ?_
        refine wv (OV.move rfl) ?_
        refine wv (OV.gtr rfl rfl) ?_
        refine wv (OV.pickF rfl rfl) ?_
        refine WL.set 60 rfl (oF (v := decide (126 < peekB r_0 r_1)) hb) ?_
        exact WL.end_ (KX.go hK_40' ⟨rfl, rfl, rfl, trivial⟩)
      refine wv (OV.move rfl) ?_
      refine WL.cut 7 [(0, zP b), (3, zU (peekB r_0 r_1)), (68, zB (((decide (peekB r_0 r_1 < 32)) || (decide (126 < peekB r_0 r_1))) || ((decide (48 ≤ peekB r_0 r_1)) && (decide (peekB r_0 r_1 ≤ 57)))))] ?_ (fun K0_42' hK_42' => ?_)
      rotate_left
      ·refine WL.split ((decide (peekB r_0 r_1 < 32)) || (decide (126 < peekB r_0 r_1))) (fun hb => ?_) (fun hb => ?_)
       ·refine WL.set 61 rfl (congrArg zB hb) ?_
        refine WL.skip rfl rfl rfl ?_
        refine WL.skip rfl rfl rfl ?_
        refine WL.skip rfl rfl rfl ?_
        refine WL.skip rfl rfl rfl ?_
        refine WL.skip rfl rfl rfl ?_
        refine WL.skip rfl rfl rfl ?_
        refine wv (OV.pickT rfl rfl) ?_
        refine WL.set 68 rfl (oT (v := (decide (48 ≤ peekB r_0 r_1)) && (decide (peekB r_0 r_1 ≤ 57))) hb) ?_
        exact WL.end_ (KX.go hK_42' ⟨rfl, rfl, rfl, trivial⟩)
       ·refine WL.set 61 rfl (congrArg zB hb) ?_
        refine wv (OV.move rfl) ?_
        refine wv (OV.geq rfl rfl) ?_
        refine wv (OV.move rfl) ?_
        refine WL.cut 3 [(0, zP b), (3, zU (peekB r_0 r_1)), (61, zB false), (67, zB ((decide (48 ≤ peekB r_0 r_1)) && (decide (peekB r_0 r_1 ≤ 57))))] ?_ (fun K0_41' hK_41' => ?_)
        rotate_left
        ·refine WL.split (decide (48 ≤ peekB r_0 r_1)) (fun hb => ?_) (fun hb => ?_)
         ·refine WL.set 64 rfl (congrArg zB hb) ?_
          refine wv (OV.move rfl) ?_
          refine wv (OV.leq rfl rfl) ?_
          refine wv (OV.pickT rfl rfl) ?_
          refine WL.set 67 rfl (bT (v := decide (peekB r_0 r_1 ≤ 57)) hb) ?_
          exact WL.end_ (KX.go hK_41' ⟨rfl, rfl, rfl, rfl, trivial⟩)
         ·refine WL.set 64 rfl (congrArg zB hb) ?_
          refine WL.skip rfl rfl rfl ?_
          refine WL.skip rfl rfl rfl ?_
          refine wv (OV.pickF rfl rfl) ?_
          refine WL.set 67 rfl (bF (v := decide (peekB r_0 r_1 ≤ 57)) hb) ?_
          exact WL.end_ (KX.go hK_41' ⟨rfl, rfl, rfl, rfl, trivial⟩)
        refine wv (OV.pickF rfl rfl) ?_
        refine WL.set 68 rfl (oF (v := (decide (48 ≤ peekB r_0 r_1)) && (decide (peekB r_0 r_1 ≤ 57))) hb) ?_
        exact WL.end_ (KX.go hK_42' ⟨rfl, rfl, rfl, trivial⟩)
      refine wv (OV.move rfl) ?_
      refine WL.cut 7 [(0, zP b), (3, zU (peekB r_0 r_1)), (76, zB ((((decide (peekB r_0 r_1 < 32)) || (decide (126 < peekB r_0 r_1))) || ((decide (48 ≤ peekB r_0 r_1)) && (decide (peekB r_0 r_1 ≤ 57)))) || ((decide (97 ≤ peekB r_0 r_1)) && (decide (peekB r_0 r_1 ≤ 122)))))] ?_ (fun K0_44' hK_44' => ?_)
      rotate_left
      ·refine WL.split (((decide (peekB r_0 r_1 < 32)) || (decide (126 < peekB r_0 r_1))) || ((decide (48 ≤ peekB r_0 r_1)) && (decide (peekB r_0 r_1 ≤ 57)))) (fun hb => ?_) (fun hb => ?_)
       ·refine WL.set 69 rfl (congrArg zB hb) ?_
        refine WL.skip rfl rfl rfl ?_
        refine WL.skip rfl rfl rfl ?_
        refine WL.skip rfl rfl rfl ?_
        refine WL.skip rfl rfl rfl ?_
        refine WL.skip rfl rfl rfl ?_
        refine WL.skip rfl rfl rfl ?_
        refine wv (OV.pickT rfl rfl) ?_
        refine WL.set 76 rfl (oT (v := (decide (97 ≤ peekB r_0 r_1)) && (decide (peekB r_0 r_1 ≤ 122))) hb) ?_
        exact WL.end_ (KX.go hK_44' ⟨rfl, rfl, rfl, trivial⟩)
       ·refine WL.set 69 rfl (congrArg zB hb) ?_
        refine wv (OV.move rfl) ?_
        refine wv (OV.geq rfl rfl) ?_
        refine wv (OV.move rfl) ?_
        refine WL.cut 3 [(0, zP b), (3, zU (peekB r_0 r_1)), (69, zB false), (75, zB ((decide (97 ≤ peekB r_0 r_1)) && (decide (peekB r_0 r_1 ≤ 122))))] ?_ (fun K0_43' hK_43' => ?_)
        rotate_left
        ·refine WL.split (decide (97 ≤ peekB r_0 r_1)) (fun hb => ?_) (fun hb => ?_)
         ·refine WL.set 72 rfl (congrArg zB hb) ?_
          refine wv (OV.move rfl) ?_
          refine wv (OV.leq rfl rfl) ?_
          refine wv (OV.pickT rfl rfl) ?_
          refine WL.set 75 rfl (bT (v := decide (peekB r_0 r_1 ≤ 122)) hb) ?_
          exact WL.end_ (KX.go hK_43' ⟨rfl, rfl, rfl, rfl, trivial⟩)
         ·refine WL.set 72 rfl (congrArg zB hb) ?_
          refine WL.skip rfl rfl rfl ?_
          refine WL.skip rfl rfl rfl ?_
          refine wv (OV.pickF rfl rfl) ?_
          refine WL.set 75 rfl (bF (v := decide (peekB r_0 r_1 ≤ 122)) hb) ?_
          exact WL.end_ (KX.go hK_43' ⟨rfl, rfl, rfl, rfl, trivial⟩)
        refine wv (OV.pickF rfl rfl) ?_
        refine WL.set 76 rfl (oF (v := (decide (97 ≤ peekB r_0 r_1)) && (decide (peekB r_0 r_1 ≤ 122))) hb) ?_
        exact WL.end_ (KX.go hK_44' ⟨rfl, rfl, rfl, trivial⟩)
      refine wv (OV.move rfl) ?_
      refine WL.cut 7 [(0, zP b), (3, zU (peekB r_0 r_1)), (84, zB (((((decide (peekB r_0 r_1 < 32)) || (decide (126 < peekB r_0 r_1))) || ((decide (48 ≤ peekB r_0 r_1)) && (decide (peekB r_0 r_1 ≤ 57)))) || ((decide (97 ≤ peekB r_0 r_1)) && (decide (peekB r_0 r_1 ≤ 122)))) || ((decide (65 ≤ peekB r_0 r_1)) && (decide (peekB r_0 r_1 ≤ 90)))))] ?_ (fun K0_46' hK_46' => ?_)
      rotate_left
      ·refine WL.split ((((decide (peekB r_0 r_1 < 32)) || (decide (126 < peekB r_0 r_1))) || ((decide (48 ≤ peekB r_0 r_1)) && (decide (peekB r_0 r_1 ≤ 57)))) || ((decide (97 ≤ peekB r_0 r_1)) && (decide (peekB r_0 r_1 ≤ 122)))) (fun hb => ?_) (fun hb => ?_)
       ·refine WL.set 77 rfl (congrArg zB hb) ?_
        refine WL.skip rfl rfl rfl ?_
        refine WL.skip rfl rfl rfl ?_
        refine WL.skip rfl rfl rfl ?_
        refine WL.skip rfl rfl rfl ?_
        refine WL.skip rfl rfl rfl ?_
        refine WL.skip rfl rfl rfl ?_
        refine wv (OV.pickT rfl rfl) ?_
        refine WL.set 84 rfl (oT (v := (decide (65 ≤ peekB r_0 r_1)) && (decide (peekB r_0 r_1 ≤ 90))) hb) ?_
        exact WL.end_ (KX.go hK_46' ⟨rfl, rfl, rfl, trivial⟩)
       ·refine WL.set 77 rfl (congrArg zB hb) ?_
        refine wv (OV.move rfl) ?_
        refine wv (OV.geq rfl rfl) ?_
        refine wv (OV.move rfl) ?_
        refine WL.cut 3 [(0, zP b), (3, zU (peekB r_0 r_1)), (77, zB false), (83, zB ((decide (65 ≤ peekB r_0 r_1)) && (decide (peekB r_0 r_1 ≤ 90))))] ?_ (fun K0_45' hK_45' => ?_)
        rotate_left
        ·refine WL.split (decide (65 ≤ peekB r_0 r_1)) (fun hb => ?_) (fun hb => ?_)
         ·refine WL.set 80 rfl (congrArg zB hb) ?_
          refine wv (OV.move rfl) ?_
          refine wv (OV.leq rfl rfl) ?_
          refine wv (OV.pickT rfl rfl) ?_
          refine WL.set 83 rfl (bT (v := decide (peekB r_0 r_1 ≤ 90)) hb) ?_
          exact WL.end_ (KX.go hK_45' ⟨rfl, rfl, rfl, rfl, trivial⟩)
         ·refine WL.set 80 rfl (congrArg zB hb) ?_
          refine WL.skip rfl rfl rfl ?_
          refine WL.skip rfl rfl rfl ?_
          refine wv (OV.pickF rfl rfl) ?_
          refine WL.set 83 rfl (bF (v := decide (peekB r_0 r_1 ≤ 90)) hb) ?_
          exact WL.end_ (KX.go hK_45' ⟨rfl, rfl, rfl, rfl, trivial⟩)
        refine wv (OV.pickF rfl rfl) ?_
        refine WL.set 84 rfl (oF (v := (decide (65 ≤ peekB r_0 r_1)) && (decide (peekB r_0 r_1 ≤ 90))) hb) ?_
        exact WL.end_ (KX.go hK_46' ⟨rfl, rfl, rfl, trivial⟩)
      refine WL.nil ?_
      refine KX.go (hK_39' [(0, zP b), (3, zU (peekB r_0 r_1)), (84, zB (((((decide (peekB r_0 r_1 < 32)) || (decide (126 < peekB r_0 r_1))) || ((decide (48 ≤ peekB r_0 r_1)) && (decide (peekB r_0 r_1 ≤ 57)))) || ((decide (97 ≤ peekB r_0 r_1)) && (decide (peekB r_0 r_1 ≤ 122)))) || ((decide (65 ≤ peekB r_0 r_1)) && (decide (peekB r_0 r_1 ≤ 90)))))] _ ?_) ⟨rfl, rfl, rfl, trivial⟩
      refine wc_cond (b := ((((decide (peekB r_0 r_1 < 32)) || (decide (126 < peekB r_0 r_1))) || ((decide (48 ≤ peekB r_0 r_1)) && (decide (peekB r_0 r_1 ≤ 57)))) || ((decide (97 ≤ peekB r_0 r_1)) && (decide (peekB r_0 r_1 ≤ 122)))) || ((decide (65 ≤ peekB r_0 r_1)) && (decide (peekB r_0 r_1 ≤ 90)))) rfl (fun hb => ?_) (fun hb => ?_)
      ·replace h := if_T h hb
       refine wc_region ?_
       refine wv (OV.move rfl) ?_
       refine wv (OV.move rfl) ?_
       refine wv (OV.nilCheck rfl) ?_
       refine wv (OV.fieldAddr0 rfl tf_field_222_1) ?_
       refine wv (OV.load rfl (At.own 3 rfl) rfl tf_scal_3) ?_
       refine WL.callS tf_ent_179 rfl (fail_does b r_1) rfl trivial rfl rfl (fun r H' hS => by cases hS) (fun c H' hS => ?_)
       cases hS
       exact hE.pan [3] rfl rfl (.inr ⟨_, _, _, h, rfl⟩)
      ·replace h := if_F h hb
       refine wc_skip ?_
       refine KX.go (hK_38' [(0, zP b), (3, zU (peekB r_0 r_1))] _ ?_) ⟨rfl, rfl, trivial⟩
       refine wc_seq (fun K0_47' hK_47' => ?_)
       refine wc_region ?_
       refine wv (OV.move rfl) ?_
       refine wv (OV.nilCheck rfl) ?_
       refine wv (OV.fieldAddr0 rfl tf_field_222_1) ?_
       refine wv (OV.load rfl (At.own 3 rfl) rfl tf_scal_3) ?_
       obtain ⟨o_14', h⟩ := h
       refine wv (OV.add rfl rfl o_14') ?_
       refine wv (OV.nilCheck rfl) ?_
       refine wv (OV.fieldAddr0 rfl tf_field_222_1) ?_
       refine WL.store (vs := [zI (r_1 + 1)]) (cs' := [st r_0, zI (r_1 + 1)]) 3 rfl rfl rfl rfl tf_size_3 (Nat.le_of_ble_eq_true rfl) rfl rfl rfl ?_
       refine WL.nil ?_
       refine KX.go (hK_47' [(3, zU (peekB r_0 r_1))] _ ?_) ⟨rfl, trivial⟩
       refine wc_seq (fun K0_48' hK_48' => ?_)
       refine wc_region ?_
       refine wv (OV.move rfl) ?_
       refine wv (OV.assign rfl) ?_
       refine WL.nil ?_
       refine KX.go (hK_48' [(2, zU (peekB r_0 r_1))] _ ?_) ⟨rfl, trivial⟩
       refine wc_ret ?_
       exact hE.ret [3] rfl rfl (.inl ⟨_, _, _, h, rfl⟩) (ResV.of1 rfl (RV.tmp rfl))

theorem or16 (hi lo : Int) (h1 : 0 ≤ hi ∧ hi ≤ 15) (h2 : 0 ≤ lo ∧ lo ≤ 15) : bits .or .u8 (IntKind.wrap .u8 (hi * 2 ^ (4 : Int).toNat)) lo = 16 * hi + lo := by
 obtain ⟨a, ha, rfl⟩ : ∃ a : Nat, a < 16 ∧ hi = (a : Int) := ⟨hi.toNat, by omega, by omega⟩
 obtain ⟨b, hb, rfl⟩ : ∃ b : Nat, b < 16 ∧ lo = (b : Int) := ⟨lo.toNat, by omega, by omega⟩
 clear h1 h2
 revert a b; decide
theorem hexM_ok {t : List UInt8} {a r q : Int} (h : hexM t a = .ok (r, q)) : a < t.length ∧ 0 ≤ r ∧ r ≤ 15 ∧ q = a + 1 := by
 unfold hexM at h
 split at h
 ·rename_i h1
  cases h
  exact ⟨h1.1, h1.2, refHex_bd.2, rfl⟩
 ·cases h
abbrev escTab (te : TypeId) (fre : Nat × Nat) : List (Nat × Obj) := [(1, .cells [zU 110, zU 10, zU 114, zU 13, zU 116, zU 9].toArray te fre)]
theorem escape_does (b : Nat) (te : TypeId) (fre : Nat × Nat) (t : List UInt8) (a : Int) (h : 0 ≤ a ∧ a ≤ t.length ∧ t.length ≤ 9223372036854775807) : Does Tryd.prog 181 [.pointer (some ⟨b, 0, none⟩)] (escTab te fre) [rdBlk b t a] (RdOut b t (fun r => .int .u8 r) (escM t a)) := by
 refine (escape_wp b te fre t a (fun r t' q => t' = t ∧ escM t a = .ok (r, q)) (fun v t' _ => t' = t ∧ ∃ e, escM t a = .error e ∧ v = faultV 10 e) ?_).weak ?_
 ·have hb := peekB_bd t a
  unfold escape_vc escM peekOk
  refine ⟨h.1, ?_⟩
  by_cases h1 : a < t.length
  ·rw [if_neg (by simp [h1]), if_pos h1]
   have hI : I64 (a + 1) := ⟨by omega, by omega⟩
   generalize peekB t a = c at hb ⊢
   by_cases e1 : c = 110
   ·subst e1; simp [hI]
   ·by_cases e2 : c = 114
    ·subst e2; simp [hI]
    ·by_cases e3 : c = 116
     ·subst e3; simp [hI]
     ·rw [if_neg (by simpa using fun e => e1 e.symm), if_neg (by simpa using fun e => e2 e.symm), if_neg (by simpa using fun e => e3 e.symm), if_neg e1, if_neg e2, if_neg e3]
      by_cases e4 : c = 120
      ·rw [if_pos (by simpa using e4), if_pos e4]
       refine ⟨hI, ⟨by omega, by omega, h.2.2⟩, fun hi p hp => ⟨?_, fun lo q hq => ?_, fun e q he => ?_⟩, fun e q he => ?_⟩
       ·have := hexM_ok hp; exact ⟨by omega, by omega, h.2.2⟩
       ·simp only [hp, hq]
        have h3 := hexM_ok hp
        have h4 := hexM_ok hq
        rw [or16 hi lo ⟨h3.2.1, h3.2.2.1⟩ ⟨h4.2.1, h4.2.2.1⟩]
        simp
       ·simp only [hp]; simp [he]
       ·simp [he]
      ·rw [if_neg (by simpa using e4), if_neg e4]
       by_cases e5 : c < 32 ∨ 126 < c ∨ (48 ≤ c ∧ c ≤ 57) ∨ (97 ≤ c ∧ c ≤ 122) ∨ (65 ≤ c ∧ c ≤ 90)
       ·rw [if_pos (by simp; omega), if_pos e5]; exact ⟨rfl, _, rfl, rfl⟩
       ·rw [if_neg (by simp; omega), if_neg e5]; exact ⟨hI, rfl, rfl⟩
  ·rw [if_pos (by simp [h1]), if_neg h1]; exact ⟨rfl, _, rfl, rfl⟩
 ·rintro o (⟨r, t', q, ⟨rfl, hm⟩, rfl⟩ | ⟨v, t', q, ⟨rfl, e, hm, rfl⟩, rfl⟩)
  ·exact .inl ⟨r, q, hm, rfl⟩
  ·exact .inr ⟨e, q, hm, rfl⟩

def one_vc (r_0 : List UInt8) (r_1 : Int) (barred : List UInt8) (K : Int → (List UInt8) → Int → Prop) (KP : Value → (List UInt8) → Int → Prop) : Prop :=
 (0 ≤ r_1) ∧
 (if ((peekOk r_0 r_1) && (decide (peekB r_0 r_1 = 92))) = true then
  (I64 (r_1 + 1)) ∧
  (0 ≤ r_1 + 1 ∧ r_1 + 1 ≤ r_0.length ∧ r_0.length ≤ 9223372036854775807) ∧
  (∀ (r_1' : Int) (at0 : Int), escM r_0 (r_1 + 1) = .ok (r_1', at0) →
   K r_1' r_0 at0) ∧
  (∀ (e : Int) (at0_1' : Int), escM r_0 (r_1 + 1) = .error e →
   KP (faultV 10 e) r_0 at0_1')
 else
  (if ((((!(peekOk r_0 r_1)) || (decide (peekB r_0 r_1 < 32))) || (decide (126 < peekB r_0 r_1))) || (decide (0 ≤ Lib.indexByte barred (peekB r_0 r_1).toNat.toUInt8))) = true then
   KP (faultV 10 r_1) r_0 r_1
  else
   (I64 (r_1 + 1)) ∧
   K (peekB r_0 r_1) r_0 (r_1 + 1)))
set_option maxRecDepth 100000 in
theorem one_wp (b : Nat) (te : TypeId) (fre : Nat × Nat) (r_0 : List UInt8) (r_1 : Int) (barred : List UInt8) (K : Int → (List UInt8) → Int → Prop) (KP : Value → (List UInt8) → Int → Prop) (h : one_vc r_0 r_1 barred K KP) :
  Does Tryd.prog 175 [zP b, st barred] [(1, .cells [zU 110, zU 10, zU 114, zU 13, zU 116, zU 9].toArray te fre)] [HA.blk b (.cells [st r_0, zI r_1].toArray 222 (0, 0))] (fun o => (∃ (v : Int) (d_0 : List UInt8) (d_1 : Int), K v d_0 d_1 ∧ o = .ret (zU v) [HA.blk b (.cells [st d_0, zI d_1].toArray 222 (0, 0))]) ∨ (∃ (pv : Value) (d_0 : List UInt8) (d_1 : Int), KP pv d_0 d_1 ∧ o = .pan [{ v := pv, recovered := false }] [HA.blk b (.cells [st d_0, zI d_1].toArray 222 (0, 0))])) := by
 unfold one_vc at h
 refine does_of_wc (n := 56) (L0 := [(0, zP b), (1, st barred)]) Tryd.func175 rfl rfl rfl rfl (fun w0 M Q hE => ?_)
 refine wc_seq (fun K0 hK => ?_)
 refine wc_region ?_
 refine wv (OV.assign rfl) ?_
 refine WL.nil ?_
 refine KX.go (hK [(0, zP b), (1, st barred)] _ ?_) ⟨rfl, rfl, trivial⟩
 refine wc_seq (fun K0_1' hK_1' => ?_)
 refine wc_region ?_
 refine wv (OV.move rfl) ?_
 obtain ⟨o, h⟩ := h
 refine WL.call (A := []) tf_ent_178 rfl (peek_does b r_0 r_1 o) rfl ⟨.inl ⟨0, rfl⟩, trivial⟩ rfl rfl ?_
 refine wv (OV.move rfl) ?_
 refine wv (OV.extract 0 rfl rfl) ?_
 refine wv (OV.extract 1 rfl rfl) ?_
 refine wv (OV.assign rfl) ?_
 refine wv (OV.assign rfl) ?_
 refine WL.nil ?_
 refine KX.go (hK_1' [(0, zP b), (1, st barred), (5, zU (peekB r_0 r_1)), (6, zB (peekOk r_0 r_1))] _ ?_) ⟨rfl, rfl, rfl, rfl, trivial⟩
 refine wc_seq (fun K0_2' hK_2' => ?_)
 refine wc_seq (fun K0_3' hK_3' => ?_)
 refine wc_region ?_
 refine wv (OV.move rfl) ?_
 refine wv (OV.move rfl) ?_
 refine WL.cut 3 [(0, zP b), (1, st barred), (5, zU (peekB r_0 r_1)), (6, zB (peekOk r_0 r_1)), (16, zB ((peekOk r_0 r_1) && (decide (peekB r_0 r_1 = 92))))] ?_ (fun K0_4' hK_4' => ?_)
 rotate_left
 ·refine WL.split (peekOk r_0 r_1) (fun hb => ?_) (fun hb => ?_)
  ·refine WL.set 13 rfl (congrArg zB hb) ?_
   refine wv (OV.move rfl) ?_
   refine wv (OV.eql rfl rfl) ?_
   refine wv (OV.pickT rfl rfl) ?_
   refine WL.set 16 rfl (bT (v := decide (peekB r_0 r_1 = 92)) hb) ?_
   exact WL.end_ (KX.go hK_4' ⟨rfl, rfl, rfl, rfl, rfl, trivial⟩)
  ·refine WL.set 13 rfl (congrArg zB hb) ?_
   refine WL.skip rfl rfl rfl ?_
   refine WL.skip rfl rfl rfl ?_
   refine wv (OV.pickF rfl rfl) ?_
   refine WL.set 16 rfl (bF (v := decide (peekB r_0 r_1 = 92)) hb) ?_
   exact WL.end_ (KX.go hK_4' ⟨rfl, rfl, rfl, rfl, rfl, trivial⟩)
 refine WL.nil ?_
 refine KX.go (hK_3' [(0, zP b), (1, st barred), (5, zU (peekB r_0 r_1)), (6, zB (peekOk r_0 r_1)), (16, zB ((peekOk r_0 r_1) && (decide (peekB r_0 r_1 = 92))))] _ ?_) ⟨rfl, rfl, rfl, rfl, rfl, trivial⟩
 refine wc_cond (b := (peekOk r_0 r_1) && (decide (peekB r_0 r_1 = 92))) rfl (fun hb => ?_) (fun hb => ?_)
 ·replace h := if_T h hb
  refine wc_seq (fun K0_5' hK_5' => ?_)
  refine wc_region ?_
  refine wv (OV.move rfl) ?_
  refine wv (OV.nilCheck rfl) ?_
  refine wv (OV.fieldAddr0 rfl tf_field_222_1) ?_
  refine wv (OV.load rfl (At.own 0 rfl) rfl tf_scal_3) ?_
  obtain ⟨o_2', h⟩ := h
  refine wv (OV.add rfl rfl o_2') ?_
  refine wv (OV.nilCheck rfl) ?_
  refine wv (OV.fieldAddr0 rfl tf_field_222_1) ?_
  refine WL.store (vs := [zI (r_1 + 1)]) (cs' := [st r_0, zI (r_1 + 1)]) 0 rfl rfl rfl rfl tf_size_3 (Nat.le_of_ble_eq_true rfl) rfl rfl rfl ?_
  refine WL.nil ?_
  refine KX.go (hK_5' [(0, zP b)] _ ?_) ⟨rfl, trivial⟩
  refine wc_seq (fun K0_6' hK_6' => ?_)
  refine wc_region ?_
  refine wv (OV.move rfl) ?_
  obtain ⟨o_3', h⟩ := h
  refine WL.callS tf_ent_181 rfl (escape_does b te fre r_0 (r_1 + 1) o_3') rfl ⟨.inr (List.mem_of_getElem? (i := 0) rfl), trivial⟩ rfl rfl (fun r H' hS => ?_) (fun c H' hS => ?_)
  ·rcases hS with ⟨r_1', at0, hc, ho⟩ | ⟨e, at0_1', hc, ho⟩ <;> cases ho
   replace h := h.1 r_1' at0 hc
   refine wv (OV.assign rfl) ?_
   refine WL.nil ?_
   refine KX.go (hK_6' [(4, zU r_1')] _ ?_) ⟨rfl, trivial⟩
   refine wc_ret ?_
   exact hE.ret [0] rfl rfl (.inl ⟨_, _, _, h, rfl⟩) (ResV.of1 rfl (RV.tmp rfl))
  ·rcases hS with ⟨r_1', at0, hc, ho⟩ | ⟨e, at0_1', hc, ho⟩ <;> cases ho
   replace h := h.2 e at0_1' hc
   exact hE.pan [0] rfl rfl (.inr ⟨_, _, _, h, rfl⟩)
 ·replace h := if_F h hb
  refine wc_skip ?_
  refine KX.go (hK_2' [(0, zP b), (1, st barred), (5, zU (peekB r_0 r_1)), (6, zB (peekOk r_0 r_1))] _ ?_) ⟨rfl, rfl, rfl, rfl, trivial⟩
  refine wc_seq (fun K0_7' hK_7' => ?_)
  refine wc_seq (fun K0_8' hK_8' => ?_)
  refine wc_region ?_
  refine wv (OV.move rfl) ?_
  refine wv (OV.not rfl) ?_
  refine wv (OV.move rfl) ?_
  refine WL.cut 3 [(0, zP b), (1, st barred), (5, zU (peekB r_0 r_1)), (31, zB ((!(peekOk r_0 r_1)) || (decide (peekB r_0 r_1 < 32))))] ?_ (fun K0_9' hK_9' => ?_)
  rotate_left
  ·refine WL.split (!(peekOk r_0 r_1)) (fun hb => ?_) (fun hb => ?_)
   ·refine WL.set 28 rfl (congrArg zB hb) ?_
    refine WL.skip rfl rfl rfl ?_
    refine WL.skip rfl rfl rfl ?_
    refine wv (OV.pickT rfl rfl) ?_
    refine WL.set 31 rfl (oT (v := decide (peekB r_0 r_1 < 32)) hb) ?_
    exact WL.end_ (KX.go hK_9' ⟨rfl, rfl, rfl, rfl, trivial⟩)
   ·refine WL.set 28 rfl (congrArg zB hb) ?_
    refine wv (OV.move rfl) ?_
    refine wv (OV.lss rfl rfl) ?_
    refine wv (OV.pickF rfl rfl) ?_
    refine WL.set 31 rfl (oF (v := decide (peekB r_0 r_1 < 32)) hb) ?_
    exact WL.end_ (KX.go hK_9' ⟨rfl, rfl, rfl, rfl, trivial⟩)
  refine wv (OV.move rfl) ?_
  refine WL.cut 3 [(0, zP b), (1, st barred), (5, zU (peekB r_0 r_1)), (35, zB (((!(peekOk r_0 r_1)) || (decide (peekB r_0 r_1 < 32))) || (decide (126 < peekB r_0 r_1))))] ?_ (fun K0_10' hK_10' => ?_)
  rotate_left
  ·refine WL.split ((!(peekOk r_0 r_1)) || (decide (peekB r_0 r_1 < 32))) (fun hb => ?_) (fun hb => ?_)
   ·refine WL.set 32 rfl (congrArg zB hb) ?_
    refine WL.skip rfl rfl rfl ?_
    refine WL.skip rfl rfl rfl ?_
    refine wv (OV.pickT rfl rfl) ?_
    refine WL.set 35 rfl (oT (v := decide (126 < peekB r_0 r_1)) hb) ?_
    exact WL.end_ (KX.go hK_10' ⟨rfl, rfl, rfl, rfl, trivial⟩)
   ·refine WL.set 32 rfl (congrArg zB hb) ?_
    refine wv (OV.move rfl) ?_
    refine wv (OV.gtr rfl rfl) ?_
    refine wv (OV.pickF rfl rfl) ?_
    refine WL.set 35 rfl (oF (v := decide (126 < peekB r_0 r_1)) hb) ?_
    exact WL.end_ (KX.go hK_10' ⟨rfl, rfl, rfl, rfl, trivial⟩)
  refine wv (OV.move rfl) ?_
  refine WL.cut 5 [(0, zP b), (5, zU (peekB r_0 r_1)), (41, zB ((((!(peekOk r_0 r_1)) || (decide (peekB r_0 r_1 < 32))) || (decide (126 < peekB r_0 r_1))) || (decide (0 ≤ Lib.indexByte barred (peekB r_0 r_1).toNat.toUInt8))))] ?_ (fun K0_11' hK_11' => ?_)
  rotate_left
  ·refine WL.split (((!(peekOk r_0 r_1)) || (decide (peekB r_0 r_1 < 32))) || (decide (126 < peekB r_0 r_1))) (fun hb => ?_) (fun hb => ?_)
   ·refine WL.set 36 rfl (congrArg zB hb) ?_
    refine WL.skip rfl rfl rfl ?_
    refine WL.skip rfl rfl rfl ?_
    refine WL.skip rfl rfl rfl ?_
    refine WL.skip rfl rfl rfl ?_
    refine wv (OV.pickT rfl rfl) ?_
    refine WL.set 41 rfl (oT (v := decide (0 ≤ Lib.indexByte barred (peekB r_0 r_1).toNat.toUInt8)) hb) ?_
    exact WL.end_ (KX.go hK_11' ⟨rfl, rfl, rfl, trivial⟩)
   ·refine WL.set 36 rfl (congrArg zB hb) ?_
    refine wv (OV.move rfl) ?_
    refine wv (OV.move rfl) ?_
    refine WL.call (A := []) tf_ent_135 rfl (indexByte_does barred (peekB r_0 r_1)) rfl trivial rfl rfl ?_
    refine wv (OV.geq rfl rfl) ?_
    refine wv (OV.pickF rfl rfl) ?_
    refine WL.set 41 rfl (oF (v := decide (0 ≤ Lib.indexByte barred (peekB r_0 r_1).toNat.toUInt8)) hb) ?_
    exact WL.end_ (KX.go hK_11' ⟨rfl, rfl, rfl, trivial⟩)
  refine WL.nil ?_
  refine KX.go (hK_8' [(0, zP b), (5, zU (peekB r_0 r_1)), (41, zB ((((!(peekOk r_0 r_1)) || (decide (peekB r_0 r_1 < 32))) || (decide (126 < peekB r_0 r_1))) || (decide (0 ≤ Lib.indexByte barred (peekB r_0 r_1).toNat.toUInt8))))] _ ?_) ⟨rfl, rfl, rfl, trivial⟩
  refine wc_cond (b := (((!(peekOk r_0 r_1)) || (decide (peekB r_0 r_1 < 32))) || (decide (126 < peekB r_0 r_1))) || (decide (0 ≤ Lib.indexByte barred (peekB r_0 r_1).toNat.toUInt8))) rfl (fun hb => ?_) (fun hb => ?_)
  ·replace h := if_T h hb
   refine wc_region ?_
   refine wv (OV.move rfl) ?_
   refine wv (OV.move rfl) ?_
   refine wv (OV.nilCheck rfl) ?_
   refine wv (OV.fieldAddr0 rfl tf_field_222_1) ?_
   refine wv (OV.load rfl (At.own 0 rfl) rfl tf_scal_3) ?_
   refine WL.callS tf_ent_179 rfl (fail_does b r_1) rfl trivial rfl rfl (fun r H' hS => by cases hS) (fun c H' hS => ?_)
   cases hS
   exact hE.pan [0] rfl rfl (.inr ⟨_, _, _, h, rfl⟩)
  ·replace h := if_F h hb
   refine wc_skip ?_
   refine KX.go (hK_7' [(0, zP b), (5, zU (peekB r_0 r_1))] _ ?_) ⟨rfl, rfl, trivial⟩
   refine wc_seq (fun K0_12' hK_12' => ?_)
   refine wc_region ?_
   refine wv (OV.move rfl) ?_
   refine wv (OV.nilCheck rfl) ?_
   refine wv (OV.fieldAddr0 rfl tf_field_222_1) ?_
   refine wv (OV.load rfl (At.own 0 rfl) rfl tf_scal_3) ?_
   obtain ⟨o_7', h⟩ := h
   refine wv (OV.add rfl rfl o_7') ?_
   refine wv (OV.nilCheck rfl) ?_
   refine wv (OV.fieldAddr0 rfl tf_field_222_1) ?_
   refine WL.store (vs := [zI (r_1 + 1)]) (cs' := [st r_0, zI (r_1 + 1)]) 0 rfl rfl rfl rfl tf_size_3 (Nat.le_of_ble_eq_true rfl) rfl rfl rfl ?_
   refine WL.nil ?_
   refine KX.go (hK_12' [(5, zU (peekB r_0 r_1))] _ ?_) ⟨rfl, trivial⟩
   refine wc_seq (fun K0_13' hK_13' => ?_)
   refine wc_region ?_
   refine wv (OV.move rfl) ?_
   refine wv (OV.assign rfl) ?_
   refine WL.nil ?_
   refine KX.go (hK_13' [(4, zU (peekB r_0 r_1))] _ ?_) ⟨rfl, trivial⟩
   refine wc_ret ?_
   exact hE.ret [0] rfl rfl (.inl ⟨_, _, _, h, rfl⟩) (ResV.of1 rfl (RV.tmp rfl))

theorem idx_bar (bar : List UInt8) (c : Int) : (0 ≤ Lib.indexByte bar c.toNat.toUInt8) ↔ bar.contains c.toNat.toUInt8 = true := indexByte_nonneg _ _
theorem one_does (b : Nat) (te : TypeId) (fre : Nat × Nat) (t : List UInt8) (a : Int) (bar : List UInt8) (h : 0 ≤ a ∧ a ≤ t.length ∧ t.length ≤ 9223372036854775807) : Does Tryd.prog 175 [.pointer (some ⟨b, 0, none⟩), st bar] (escTab te fre) [rdBlk b t a] (RdOut b t (fun r => .int .u8 r) (oneM t a bar)) := by
 refine (one_wp b te fre t a bar (fun r t' q => t' = t ∧ oneM t a bar = .ok (r, q)) (fun v t' _ => t' = t ∧ ∃ e, oneM t a bar = .error e ∧ v = faultV 10 e) ?_).weak ?_
 ·have hb := peekB_bd t a
  unfold one_vc oneM peekOk
  refine ⟨h.1, ?_⟩
  by_cases h1 : a < t.length
  ·have hI : I64 (a + 1) := ⟨by omega, by omega⟩
   have hbar := idx_bar bar (peekB t a)
   generalize peekB t a = c at hb hbar ⊢
   simp only [h1, decide_true, Bool.true_and, if_true]
   generalize Lib.indexByte bar c.toNat.toUInt8 = ix at hbar ⊢
   generalize bar.contains c.toNat.toUInt8 = bc at hbar ⊢
   by_cases e1 : c = 92
   ·rw [if_pos (by simpa using e1), if_pos e1]
    exact ⟨hI, ⟨by omega, by omega, h.2.2⟩, fun r q hr => by simp [hr], fun e q he => by simp [he]⟩
   ·rw [if_neg (by simpa using e1), if_neg e1]
    by_cases e5 : c < 32 ∨ 126 < c ∨ bc = true
    ·rw [if_pos (by rw [← hbar] at e5; simp; omega), if_pos e5]; simp
    ·rw [if_neg (by rw [← hbar] at e5; simp; omega), if_neg e5]; simp [hI]
  ·simp only [h1, decide_false, Bool.false_and, if_false]
   rw [if_neg (by simp), if_pos (by simp)]
   simp
 ·rintro o (⟨r, t', q, ⟨rfl, hm⟩, rfl⟩ | ⟨v, t', q, ⟨rfl, e, hm, rfl⟩, rfl⟩)
  ·exact .inl ⟨r, q, hm, rfl⟩
  ·exact .inr ⟨e, q, hm, rfl⟩

end Go.Proofs.YtohnchdnkbadaaaDoor
