/-
  Merged: Gwh.
-/
import Derived.Test.YtaaepdlajkdneaaDoorPs3
namespace Go.Proofs.YtaaepdlajkdneaaDoor
open Go Go.RowKit
variable {P : Program} {ops : Array Oper} {Q : Exit → Act → World → Prop} {C : Cx} {L : Sl} {H : List HA} {rest : List Oper} {o : Oper} {w : World}
def aik (sz : Nat) : Value → Value
 | .slice a n c => .slice (if c = 1 then a else a.map (·.add sz)) (n - 1) (c - 1)
 | v => v
def p5 (v : Value) (sz : Nat) : Nat → Value
 | 0 => v
 | k + 1 => aik sz (p5 v sz k)
theorem aih {b n cap sz : Nat} (hn : n ≤ cap) : ∀ k, k ≤ n → ∃ a, p5 (.slice (some ⟨b, 0, none⟩) n cap) sz k = .slice a (n - k) (cap - k) ∧ (k < n → a = some ⟨b, k * sz, none⟩)
 | 0, _ => ⟨_, rfl, fun _ => by rw [Nat.zero_mul]⟩
 | k + 1, h => by
  obtain ⟨a, h1, h2⟩ := aih (b := b) (sz := sz) hn k (by omega)
  refine ⟨if cap - k = 1 then a else a.map (·.add sz), ?_, fun h3 => ?_⟩
  ·show p5 _ sz (k + 1) = _
   rw [p5, h1, aik]
   rfl
  ·rw [h2 (by omega), if_neg (by omega), Nat.add_mul, Nat.one_mul]
   simp [Addr.add]
theorem ahl {T : TypeId} {sz n k : Nat} {v : Value} {xs : List Value} (h : w.ownsRow 0 T sz v n xs) (hk : k ≤ n) : ∃ a c, p5 v sz k = .slice a (n - k) c ∧ n - k ≤ c ∧ (k < n → a = some ⟨x9 v, k * sz, none⟩) := by
 rcases h.2 with ⟨rfl, rfl⟩ | ⟨b, cap, cur, rfl, _, _, hn, _⟩
 ·obtain rfl : k = 0 := by omega
  exact ⟨none, 0, rfl, by omega, fun h => by omega⟩
 ·obtain ⟨a, h1, h2⟩ := aih (b := b) (sz := sz) hn k hk
  exact ⟨a, cap - k, h1, by omega, h2⟩
section
variable {x y : Operand} {t e' ty T : TypeId} {d : Option Tmp} {p : String} {e : Array Edge} {g : Option (Nat × Bool)} {v : Value} {kk : IntKind} {sz n k : Nat} {xs : List Value}
theorem OV.lenSuf (i : Nat) (hx : ev L x = some (p5 v sz k)) (hi : H[i]? = some (.row v T sz n xs)) (ht : slB P t e' sz = true) (hk : k ≤ n) : OV P C L H ⟨d, .call ⟨.builtin .len, #[x], #[t]⟩, ty, p, e, g⟩ (.int .i64 ((n - k : Nat) : Int)) := fun a w hf hp => by
 obtain ⟨a0, c, h1, _⟩ := ahl (hp.row hi) hk
 rw [h1] at hx
 exact OV.lenS hx ht a w hf hp
theorem OV.indexSuf (i : Nat) {j : Int} (hx : ev L x = some (p5 v sz k)) (hy : ev L y = some (.int kk j)) (hi : H[i]? = some (.row v T sz n xs)) (ht : slB P t e' sz = true) (hb : 0 ≤ j ∧ (k : Int) + j < n) : OV P C L H ⟨d, .indexAddr t x y, ty, p, e, g⟩ (.pointer (some ⟨x9 v, (k + j.toNat) * sz, none⟩)) := fun a w hf hp => by
 obtain ⟨a0, c, h1, _, h2⟩ := ahl (k := k) (hp.row hi) (by omega)
 obtain rfl := h2 (by omega)
 rw [h1] at hx
 exact OV.indexSl hx hy ht ⟨hb.1, by omega⟩ (by rw [Nat.add_mul]) a w hf hp
theorem OV.sufNext (i : Nat) (hx : ev L x = some (p5 v sz k)) (hy : ev L y = some (.int kk 1)) (hi : H[i]? = some (.row v T sz n xs)) (ht : slB P t e' sz = true) (hb : k < n) :
  OV P C L H ⟨d, .slice t x (some y) none none, ty, p, e, g⟩ (p5 v sz (k + 1)) := fun a w hf hp => by
 have he := ali (q7 ht).1
 have hs : (sizeOf (P.elem t)).run P w = .ok sz w := by
  have h1 := (q7 ht).2
  have h2 : P.elem t = e' := by simp [Program.elem, (q7 ht).1]
  rw [h2]; exact x8 h1 w
 obtain ⟨a0, c, h1, hc, _⟩ := ahl (k := k) (hp.row hi) (by omega)
 have h3 : p5 v sz (k + 1) = aik sz (p5 v sz k) := rfl
 rw [h3, h1]
 rw [h1] at hx
 have hr := run_slice_l (P := P) (w := w) t a0 (n - k) c he kk 1 (by omega) (by omega)
 simp only [execOp, Option.map_some, Option.map_none, hf.ev hx, hf.ev hy, Sem.run_bind, run_sliceAt_slice (P := P) w t _ _ _ _ he, hr, hs, Result.andThen_ok, Sem.run_pure]
 simp [sliced, aik]
end
section ap
variable {s x y z : Operand} {t e' ty T : TypeId} {p : String} {e : Array Edge} {v u : Value} {k k' : IntKind} {sz bytes : Nat} {zs cs : List Value} {α : Type} {f : α → List Value} {l ms : List α} {d : Nat}
theorem agi (t ty e : TypeId) (i : TypeInfo) (ht : P.underlying t = some (.slice e)) (hi : P.info? e = some i) (v : Value) (n c : Nat) (xs : List Value) (hown : w.ownsRow 0 e sz v n xs) :
  (Builtin.append_ #[t, t] ty #[v, .slice none 0 c]).run P w = .ok v w := by
 rcases hown.2 with ⟨rfl, rfl⟩ | ⟨g, cap, cur, rfl, _, _, hnc, _⟩
 ·simp [Builtin.append_, run_underlying ht, sizeOf, typeInfo, hi, Builtin.lenOf, Builtin.firstCells]
 ·simp [Builtin.append_, run_underlying ht, sizeOf, typeInfo, hi, Builtin.lenOf, Builtin.firstCells, hnc, storeCells]
theorem WL.appendIn (i : Nat) (hs : ev L s = some v) (hx : ev L x = some u) (hl : LIn C u ms.length (ms.flatMap f)) (hi : H[i]? = some (.row v e' sz l.length (l.flatMap f)))
  (hf' : ∀ x, (f x).length = sz) (h0 : 0 < sz) (h1 : ∀ x, (f x).all (·.oneCell') = true) (ht : slB P t e' sz = true) (hinf : ag6 P e' = some (zs, sz, bytes)) (hzs : zs.length = sz) (hb : ((l.length + ms.length) + (l.length + ms.length) / 4 + 192) * bytes ≤ 281474976710656 ∧ l.length + ms.length ≤ 9223372036854775807)
  (hw : m3 ops L ⟨some d, .call ⟨.builtin .append, #[s, x], #[t, t]⟩, ty, p, e, none⟩ = some true) (hn : Nat.blt d C.n = true)
  (h : ∀ v', WL P ops Q C ((d, v') :: L) (H.set i (.row v' e' sz (l ++ ms).length ((l ++ ms).flatMap f))) rest) : WL P ops Q C L H (⟨some d, .call ⟨.builtin .append, #[s, x], #[t, t]⟩, ty, p, e, none⟩ :: rest) := by
 intro a w hf hp
 obtain ⟨inf, z, q1, q2, q3, q4, q5⟩ := ad8 hinf
 obtain ⟨R, hin, hR⟩ := hl
 have hlen : (ms.flatMap f).length = ms.length * sz := v6 hf' ms
 have hone : ∀ u ∈ ms.flatMap f, u.oneCell' = true := fun u hu => by
  obtain ⟨x, _, hx⟩ := List.mem_flatMap.1 hu
  exact List.all_eq_true.1 (h1 x) u hx
 have key : ∀ (a0 : Addr) (c : Nat), u = .slice (some a0) ms.length c → (∀ q u, (ms.flatMap f)[q]? = some u → w.cell? (a0.add q) = some u) → wpList P ops Q (⟨some d, .call ⟨.builtin .append, #[s, x], #[t, t]⟩, ty, p, e, none⟩ :: rest) a w := fun a0 c hu hnews => by
  subst hu
  obtain ⟨v', w', hr, r1, r2, _⟩ := run_append_own_wide (P := P) w 0 t ty e' inf z sz bytes (q7 ht).1 q1 q2 q4 q5 (by rw [q3]; simpa using hzs) h0 v l.length (l.flatMap f) (hp.row hi) a0 ms.length c _ hlen hnews hone (by simp only [maxLen]; omega) hb.1 (Nat.zero_le _)
  refine m6 (i8 hf hw) ?_
  unfold Oper.wp execOp
  simp only [resolve, invoke, builtin, Sem.run_bind, Sem.run_pure, Result.andThen_ok, List.map_toArray, List.map_cons, List.map_nil, hf.ev hs, hf.ev hx, hr]
  refine h v' _ w' (hf.put hn v') (hp.swap hi r2.os r2.tape r2.output r2.size (fun F hF k hk hkF => r2.block k hk (fun e => hkF (by rw [hF.1, ← e]; simp))) (fun F hF _ => ⟨v'.ownBlock.toList, ⟨rfl, by rw [List.length_append, List.flatMap_append]; exact r1⟩, by cases v'.ownBlock <;> simp, fun k hk => ?_⟩))
  have hk' : v'.ownBlock = some k := by simpa using hk
  refine ⟨?_, (r1.lt k hk').2⟩
  rcases afb (q7 ht).1 q1 q2 q4 q5 (hp.row hi) hlen hnews hone hb.2 hb.1 hr hk' with h4 | h4
  ·exact .inl (by rw [hF.1, h4]; simp)
  ·exact .inr h4
 rcases hin with ⟨hm, hxs, ⟨a0, c, rfl⟩, _⟩ | ⟨b, off, cap, cs, T, fr, rfl, rfl, hc⟩
 ·cases a0 with
  | some a0 => exact key a0 c (by rw [hm]) (fun q u hq => by rw [hxs] at hq; simp at hq)
  | none =>
   have hms : ms = [] := List.eq_nil_of_length_eq_zero hm
   subst hms
   refine m6 (i8 hf hw) ?_
   unfold Oper.wp execOp
   simp only [resolve, invoke, builtin, Sem.run_bind, Sem.run_pure, Result.andThen_ok, List.map_toArray, List.map_cons, List.map_nil, hf.ev hs, hf.ev hx, agi (P := P) t ty e' inf (q7 ht).1 q1 v l.length c _ (hp.row hi)]
   refine h v _ w (hf.put hn v) ?_
   have hq : H.set i (.row v e' sz (l ++ []).length ((l ++ []).flatMap f)) = H := by
    obtain ⟨hlt, he⟩ := List.getElem?_eq_some_iff.1 hi
    rw [List.append_nil, ← he, List.set_getElem_self]
   rw [hq]; exact hp
 ·refine key _ cap rfl (fun q u hq => ?_)
  have hmem : w.heap[b]? = some (.cells cs.toArray T fr) := (At.old (H := H) (hR _ (List.mem_singleton.2 rfl))) w hp
  have hlt : q < (ms.flatMap f).length := (List.getElem?_eq_some_iff.1 hq).1
  rw [← hc, List.getElem?_take, if_pos hlt, List.getElem?_drop] at hq
  rw [Addr.add_mid]
  simp only [World.cell?, hmem]
  simpa using hq
end ap
section b0
variable {P : Program} {C : Cx} {L : Sl} {H : List HA}
theorem MV.buildSlice0 {t e' ty : TypeId} {d : Option Tmp} {p : String} {e : Array Edge} {g : Option (Nat × Bool)} {sz : Nat} (hs : slB P t e' sz = true) :
  MV P C L H ⟨d, .buildSlice t 0 #[], ty, p, e, g⟩ (.cells ([] : List Value).toArray e' (0, 0)) (fun b => .slice (some ⟨b, 0, none⟩) 0 0) := fun a w hf _ => by
 have hu := (q7 hs).1
 have hsr : (sizeOf e').run P w = .ok sz w := by
  have h2 := (q7 hs).2
  unfold t7 at h2
  cases hi : P.info? e' with
  | none => rw [hi] at h2; simp at h2
  | some ie => rw [hi] at h2; simp at h2; simp [sizeOf, typeInfo, hi, h2]
 simp only [execOp, Instr.buildSlice, Sem.run_bind, p7 hu, Result.andThen_ok, hsr, Nat.zero_mul]
 rw [if_neg (by decide), if_pos trivial]
 have hf : Instr.fill (fun i => some (i * sz, sz)) (((Array.range 0)).map (fun x => (#[] : Array Value)[x % (#[] : Array Value).size]!)) ((#[] : Array (Nat × Operand)).map fun x => (x.1, a.eval x.2)).toList = some #[] := by simp [Instr.fill]
 simp only [Sem.run_bind, Sem.run_pure, Result.andThen_ok, hf, newRow, newObj]
 rfl
end b0
end Go.Proofs.YtaaepdlajkdneaaDoor
