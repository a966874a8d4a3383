/-
  The calculus of walks: how rows begin and what is read off them.
-/
import Derived.Test.YtlfolgbaageknaaDoorGwr
namespace Go.Proofs.YtlfolgbaageknaaDoor
open Go Go.RowKit

variable {P : Program} {ops : Array Oper} {Q : Exit → Act → World → Prop} {C : Cx} {L : Sl} {H : List HA} {rest : List Oper} {o : Oper} {w : World}

theorem Hp.nilRow (h : Hp C H w) (T : TypeId) (sz : Nat) {α : Type} (f : α → List Value) : Hp C (.row (.slice none 0 0) T sz ([] : List α).length (([] : List α).flatMap f) :: H) w := by
  obtain ⟨F, h1, h2, h3⟩ := h.own
  exact ⟨h.os, h.tape, h.output, h.size, h.keep, h.ro, F, ⟨[], F, rfl, ⟨rfl, World.ownsRow_nil w 0 T sz⟩, h1⟩, h2, h3⟩
theorem Hp.asRow (h : Hp C H w) {i b m : Nat} {T : TypeId} {cs : List Value} {α : Type} {f : α → List Value} {ms : List α} {sz : Nat} (hi : H[i]? = some (.blk b (.cells cs.toArray T (0, 0)))) (hc : cs = ms.flatMap f) (hm : ms.length = m) (hf' : ∀ x, (f x).length = sz) (hl : m ≤ 9223372036854775807) :
    Hp C (H.set i (.row (.slice (some ⟨b, 0, none⟩) m m) T sz ms.length (ms.flatMap f))) w := by
  subst hm
  refine h.swap hi rfl rfl rfl (Nat.le_refl _) (fun _ _ _ _ _ => rfl) (fun F hF hn => ⟨F, ⟨?_, ?_, ?_⟩, hn, fun k hk => ⟨.inl hk, ?_⟩⟩)
  · rw [hF.1]; rfl
  · exact flat_len hf' ms
  · exact .inr ⟨b, ms.length, cs.toArray, rfl, Nat.zero_le _, hF.2, Nat.le_refl _, by simp only [maxLen]; omega, by rw [List.size_toArray, hc, flat_len hf'], by rw [← flat_len hf' ms, ← hc]; simp⟩
  · rw [hF.1] at hk; simp at hk; subst hk; exact lt_of_blk hF.2
theorem WL.nilRow (T : TypeId) (sz : Nat) {α : Type} (f : α → List Value) (h : WL P ops Q C L (.row (.slice none 0 0) T sz ([] : List α).length (([] : List α).flatMap f) :: H) rest) : WL P ops Q C L H rest := fun a w hf hp => h a w hf (hp.nilRow T sz f)
theorem WC.nilRow {c : Code} (T : TypeId) (sz : Nat) {α : Type} (f : α → List Value) (h : WC P c Q C L (.row (.slice none 0 0) T sz ([] : List α).length (([] : List α).flatMap f) :: H)) : WC P c Q C L H := fun a w hf hp => h a w hf (hp.nilRow T sz f)
theorem QX.nilRow {e : Exit} (T : TypeId) (sz : Nat) {α : Type} (f : α → List Value) (h : QX Q e C L (.row (.slice none 0 0) T sz ([] : List α).length (([] : List α).flatMap f) :: H)) : QX Q e C L H := fun a w hf hp => h a w hf (hp.nilRow T sz f)
theorem WL.asRow {m : Nat} {α : Type} {f : α → List Value} {ms : List α} {sz : Nat} {b : Nat} {T : TypeId} {cs : List Value} (i : Nat) (hi : H[i]? = some (.blk b (.cells cs.toArray T (0, 0)))) (hc : cs = ms.flatMap f) (hm : ms.length = m) (hf' : ∀ x, (f x).length = sz) (hl : Nat.ble m 9223372036854775807 = true)
    (h : WL P ops Q C L (H.set i (.row (.slice (some ⟨b, 0, none⟩) m m) T sz ms.length (ms.flatMap f))) rest) : WL P ops Q C L H rest := fun a w hf hp => h a w hf (hp.asRow hi hc hm hf' (Nat.le_of_ble_eq_true hl))
theorem WC.asRow {c : Code} {m : Nat} {α : Type} {f : α → List Value} {ms : List α} {sz : Nat} {b : Nat} {T : TypeId} {cs : List Value} (i : Nat) (hi : H[i]? = some (.blk b (.cells cs.toArray T (0, 0)))) (hc : cs = ms.flatMap f) (hm : ms.length = m) (hf' : ∀ x, (f x).length = sz) (hl : Nat.ble m 9223372036854775807 = true)
    (h : WC P c Q C L (H.set i (.row (.slice (some ⟨b, 0, none⟩) m m) T sz ms.length (ms.flatMap f)))) : WC P c Q C L H := fun a w hf hp => h a w hf (hp.asRow hi hc hm hf' (Nat.le_of_ble_eq_true hl))

/-- A new row in front. -/
theorem Hp.newRow (h : Hp C H w) {w' : World} {g : Nat} {v : Value} {T : TypeId} {sz n : Nat} {xs : List Value} (hg : w.grownBy w' none) (hv : v.ownBlock = some g) (hge : w.heap.size ≤ g) (hr : w'.ownsRow 0 T sz v n xs) : Hp C (.row v T sz n xs :: H) w' := by
  obtain ⟨F, h1, h2, h3⟩ := h.own
  refine ⟨hg.os.trans h.os, hg.tape.trans h.tape, hg.output.trans h.output, Nat.le_trans h.size hg.size, fun k hk hM => ?_, h.ro, g :: F, ⟨[g], F, rfl, ⟨by rw [hv]; rfl, hr⟩, h1.keep fun k hk => hg.block k (h3 k hk).1 (by simp)⟩, ?_, fun k hk => ?_⟩
  · rw [hg.block k (by have := h.size; omega) (by simp)]; exact h.keep k hk hM
  · exact List.nodup_cons.2 ⟨fun hm => by have := (h3 _ hm).1; omega, h2⟩
  · rcases List.mem_cons.1 hk with rfl | hk
    · exact ⟨(hr.lt k hv).2, .inl (Nat.le_trans h.size hge)⟩
    · exact ⟨Nat.lt_of_lt_of_le (h3 k hk).1 hg.size, (h3 k hk).2⟩
section mk
variable {x y : Operand} {t e' ty : TypeId} {p : String} {e : Array Edge} {g : Option (Nat × Bool)} {k k' : IntKind} {sz bytes : Nat} {zs : List Value} {d : Nat} {α : Type} {f : α → List Value}
/-- make([]T, 0, n) -/
theorem WL.makeCap {c : Int} (hx : ev L x = some (.int k 0)) (hy : ev L y = some (.int k' c)) (ht : slB P t e' sz = true) (hinf : infoB P e' = some (zs, sz, bytes)) (hb : 0 ≤ c ∧ (bytes : Int) * c ≤ 281474976710656 ∧ c ≤ 9223372036854775807)
    (hw : wantB ops L ⟨some d, .makeSlice t x y, ty, p, e, g⟩ = some true) (hn : Nat.blt d C.n = true) (f : α → List Value)
    (h : ∀ v, WL P ops Q C ((d, v) :: L) (.row v e' sz ([] : List α).length (([] : List α).flatMap f) :: H) rest) : WL P ops Q C L H (⟨some d, .makeSlice t x y, ty, p, e, g⟩ :: rest) := by
  intro a w hf hp
  obtain ⟨inf, z, q1, q2, q3, q4, q5⟩ := infoB_spec hinf
  obtain ⟨c, rfl⟩ : ∃ n : Nat, c = n := ⟨c.toNat, by omega⟩
  have hb1 : inf.bytes * c ≤ 281474976710656 := by
    have h2 := hb.2.1
    rw [q5]
    have : ((bytes * c : Nat) : Int) ≤ 281474976710656 := by rw [Int.natCast_mul]; exact h2
    omega
  obtain ⟨w', hr, r1, r2⟩ := run_make_own (P := P) w 0 t e' inf z sz (slB_spec ht).1 q1 q2 q4 k k' c hb1 (by simp only [maxLen]; omega) (Nat.zero_le _)
  refine wpList_want' (wanted_of hf hw) ?_
  unfold Oper.wp
  simp only [execOp, hf.ev hx, hf.ev hy, Sem.run_bind, hr, Result.andThen_ok, Sem.run_pure, Oper.upon]
  exact h _ _ w' (hf.put hn _) (hp.newRow r2 rfl (Nat.le_refl _) r1)
theorem made_flat {z : Array Value} {f : α → List Value} {zero : α} {sz : Nat} (hz : z.toList = f zero) (hf' : ∀ x, (f x).length = sz) (n : Nat) : (madeCells z (n * sz)).toList = (List.replicate n zero).flatMap f := by
  have hsz : z.size = sz := by rw [← Array.length_toList, hz, hf']
  refine List.ext_getElem? fun j => ?_
  have hl : ((List.replicate n zero).flatMap f).length = n * sz := by rw [flat_len hf', List.length_replicate]
  by_cases hj : j < n * sz
  · have h0 : 0 < sz := by
      rcases Nat.eq_zero_or_pos sz with h | h
      · subst h; simp at hj
      · exact h
    have hq : j / sz < n := Nat.div_lt_of_lt_mul (by rw [Nat.mul_comm]; exact hj)
    have hr := Nat.mod_lt j h0
    have e1 : j = j / sz * sz + j % sz := (Nat.div_add_mod' j sz).symm
    have h2 : ((List.replicate n zero).flatMap f)[j]? = (f zero)[j % sz]? := by
      have h3 := congrArg (fun l => l[j % sz]?) (flat_drop (f := f) hf' (List.replicate n zero) (j / sz))
      simp only [List.getElem?_drop] at h3
      rw [← e1] at h3
      rw [h3, List.drop_replicate, show n - j / sz = (n - j / sz - 1) + 1 by omega, List.replicate_succ, List.flatMap_cons, List.getElem?_append_left (by rw [hf']; exact hr)]
    rw [h2, ← hz]
    simp [madeCells, hj, hsz]
    rw [getElem!_pos z (j % sz) (by omega), Array.getElem?_eq_getElem (by omega)]
  · have hm : (madeCells z (n * sz)).toList.length = n * sz := by rw [Array.length_toList, size_madeCells]
    rw [List.getElem?_eq_none (by omega), List.getElem?_eq_none (by omega)]
/-- make([]T, n) -/
theorem WL.makeRow [Inhabited α] {c : Int} {zero : α} (hx : ev L x = some (.int k c)) (hy : ev L y = some (.int k' c)) (ht : slB P t e' sz = true) (hinf : infoB P e' = some (zs, sz, bytes)) (hb : 0 ≤ c ∧ (bytes : Int) * c ≤ 281474976710656 ∧ c ≤ 9223372036854775807)
    (f : α → List Value) (hz : zs = f zero) (hf' : ∀ x, (f x).length = sz)
    (hw : wantB ops L ⟨some d, .makeSlice t x y, ty, p, e, g⟩ = some true) (hn : Nat.blt d C.n = true)
    (h : ∀ v, WL P ops Q C ((d, v) :: L) (.row v e' sz (List.replicate c.toNat zero).length ((List.replicate c.toNat zero).flatMap f) :: H) rest) : WL P ops Q C L H (⟨some d, .makeSlice t x y, ty, p, e, g⟩ :: rest) := by
  intro a w hf hp
  obtain ⟨inf, z, q1, q2, q3, q4, q5⟩ := infoB_spec hinf
  obtain ⟨c, rfl⟩ : ∃ n : Nat, c = n := ⟨c.toNat, by omega⟩
  have hb1 : inf.bytes * c ≤ 281474976710656 := by
    have h2 := hb.2.1
    rw [q5]
    have : ((bytes * c : Nat) : Int) ≤ 281474976710656 := by rw [Int.natCast_mul]; exact h2
    omega
  obtain ⟨w', hr, r1, r2⟩ := run_make_full (P := P) w 0 t e' inf z sz (slB_spec ht).1 q1 q2 q4 k k' c hb1 (by simp only [maxLen]; omega) (Nat.zero_le _)
  refine wpList_want' (wanted_of hf hw) ?_
  unfold Oper.wp
  simp only [execOp, hf.ev hx, hf.ev hy, Sem.run_bind, hr, Result.andThen_ok, Sem.run_pure, Oper.upon]
  refine h _ _ w' (hf.put hn _) (hp.newRow r2 rfl (Nat.le_refl _) ?_)
  rw [made_flat (zero := zero) (f := f) (by rw [q3]; exact hz) hf'] at r1
  rw [List.length_replicate, Int.toNat_natCast]; exact r1
end mk
/-- A store of an owned slice into a cell. -/
theorem WL.storeSl {x y : Operand} {t ty T T' : TypeId} {p : String} {e : Array Edge} {g : Option (Nat × Bool)} {b off sz n : Nat} {v : Value} {xs cs cs' : List Value} (i k : Nat)
    (hx : ev L x = some (.pointer (some ⟨b, off, none⟩))) (hy : ev L y = some v) (hi : H[i]? = some (.blk b (.cells cs.toArray T (0, 0)))) (hk : H[k]? = some (.row v T' sz n xs)) (hs : sizeB P t 1 = true)
    (hfit : off + 1 ≤ cs.length) (he : cs.take off ++ [v] ++ cs.drop (off + 1) = cs') (hw : wantB ops L ⟨none, .store t x y, ty, p, e, g⟩ = some true)
    (h : WL P ops Q C L (H.set i (.blk b (.cells cs'.toArray T (0, 0)))) rest) : WL P ops Q C L H (⟨none, .store t x y, ty, p, e, g⟩ :: rest) := by
  refine WL.op (fun K hK a w hf hp => ?_) hw h
  rcases (hp.row hk).2 with ⟨rfl, _⟩ | ⟨_, _, _, rfl, _⟩
  · exact OpK.store (vs := [_]) i hx hy hi rfl hs hfit rfl he K hK a w hf hp
  · exact OpK.store (vs := [_]) i hx hy hi rfl hs hfit rfl he K hK a w hf hp
/-- The text of owned bytes. -/
def byteC (c : UInt8) : List Value := [.int .u8 (c.toNat : Int)]
theorem byteC_len (c : UInt8) : (byteC c).length = 1 := rfl
theorem OV.bytesRow {x : Operand} {t t' e' ty : TypeId} {d : Option Tmp} {p : String} {e : Array Edge} {g : Option (Nat × Bool)} {v : Value} {l : List UInt8} (i : Nat) (hx : ev L x = some v) (hi : H[i]? = some (.row v e' 1 l.length (l.flatMap byteC))) (hs : slB P t e' 1 = true) (he : P.underlying e' = some (.int .u8)) (ht : strB P t' = true) :
    OV P C L H ⟨d, .convert t t' x, ty, p, e, g⟩ (st l) := fun a w hf hp => by
  obtain ⟨hl, hr⟩ := hp.row hi
  rcases hr with ⟨rfl, h0⟩ | ⟨b, cap, cur, rfl, _, hb, hn, _, hcs, htk⟩
  · have : l = [] := List.eq_nil_of_length_eq_zero h0
    subst this
    simp only [execOp, hf.ev hx, Sem.run_bind, run_convert_bytes_nil w t e' (slB_spec hs).1 he 0 0 t' (strB_spec ht), Result.andThen_ok, Sem.run_pure]
    rfl
  · have hfl : l.flatMap byteC = l.map (fun c => Value.int .u8 (c.toNat : Int)) := by
      clear hx hi hl hb hn hcs htk
      induction l with
      | nil => rfl
      | cons c l ih => rw [List.flatMap_cons, ih]; rfl
    have hc : ∀ j (hj : j < l.length), w.cell? ((⟨b, 0, none⟩ : Addr).add j) = some (.int .u8 (l[j].toNat : Int)) := fun j hj => by
      rw [Addr.add_mid, Nat.zero_add]
      have h1 : cur.toList[j]? = some (.int .u8 (l[j].toNat : Int)) := by
        have h2 : (cur.toList.take (l.length * 1))[j]? = some (.int .u8 (l[j].toNat : Int)) := by rw [htk, hfl]; simp [hj]
        rw [List.getElem?_take, if_pos (by omega)] at h2
        exact h2
      have h3 : cur[j]? = some (.int .u8 (l[j].toNat : Int)) := by simpa using h1
      simp [World.cell?, hb, h3]
    have hr := run_convert_bytes_back (P := P) w t t' e' ⟨b, 0, none⟩ cap l (slB_spec hs).1 he (strB_spec ht) hc
    simp only [execOp, hf.ev hx, Sem.run_bind, hr, Result.andThen_ok, Sem.run_pure]
end Go.Proofs.YtlfolgbaageknaaDoor
