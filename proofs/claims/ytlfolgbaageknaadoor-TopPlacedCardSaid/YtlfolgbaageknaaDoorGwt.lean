/-
  The calculus of walks: a text appended to owned bytes.
-/
import Derived.Test.YtlfolgbaageknaaDoorGws
import Derived.Lib.AppendStr
namespace Go.Proofs.YtlfolgbaageknaaDoor
open Go Go.RowKit Go.Lib

variable {P : Program} {ops : Array Oper} {Q : Exit → Act → World → Prop} {C : Cx} {L : Sl} {H : List HA} {rest : List Oper}

theorem byte_flat : ∀ l : List UInt8, l.flatMap byteC = l.map (fun c => Value.int .u8 (c.toNat : Int))
  | [] => rfl
  | c :: l => by rw [List.flatMap_cons, byte_flat l]; rfl
theorem append_str_in {w : World} {t u ty e : TypeId} {i : TypeInfo} (ht : P.underlying t = some (.slice e)) (hu : P.underlying u = some .string) (hi : P.info? e = some i) (hz : i.zero = some (.int .u8 0)) (hsize : i.size = 1) (hby : i.bytes = 1)
    {v : Value} {n : Nat} {xs : List Value} (hown : w.ownsRow 0 e 1 v n xs) {s : ByteArray} (hb : n + s.size ≤ 140737488355328) {v' : Value} {w' : World} (hr : (Builtin.append_ #[t, u] ty #[v, .string s]).run P w = .ok v' w') {k : Nat} (hk : v'.ownBlock = some k) : v.ownBlock = some k ∨ w.heap.size ≤ k := by
  rcases hown.2 with ⟨rfl, rfl⟩ | ⟨g, cap, cur, rfl, _, hg, hnc, _, hcs, _⟩
  · by_cases hm : s.size = 0
    · have : (Builtin.append_ #[t, u] ty #[.slice none 0 0, .string s]).run P w = .ok (.slice none 0 0) w := by
        simp [Builtin.append_, run_underlying ht, run_underlying hu, sizeOf, typeInfo, hi, Builtin.lenOf, Builtin.firstCells, hm]
      rw [this] at hr
      cases hr
      simp [Value.ownBlock] at hk
    · rw [run_append_nil_string (P := P) w t u ty e i _ ht hu hi hz s (by omega) (by omega) (by rw [hby]; omega)] at hr
      cases hr
      simp [Value.ownBlock] at hk
      exact .inr (by omega)
  · by_cases hroom : n + s.size ≤ cap
    · rw [run_append_room_string (P := P) w t u ty e i ht hu hi hsize g n cap cur hg s hroom (by omega)] at hr
      cases hr
      exact .inl hk
    · have holds : ∀ j q, xs[j]? = some q → w.cell? ((⟨g, 0, none⟩ : Addr).add j) = some q := hown.cells (g := g) rfl
      rw [run_append_grow_string (P := P) w t u ty e i _ ht hu hi hz ⟨g, 0, none⟩ n cap xs (by rw [hown.1, hsize]) holds s (by omega) (by omega) (growslice_fits (by omega) (by rw [hby]; omega))] at hr
      cases hr
      simp [Value.ownBlock] at hk
      exact .inr (by omega)
def byteT (P : Program) (e : TypeId) : Prop := (P.info? e).map (fun i => (i.zero, i.size, i.bytes)) = some (some (.int .u8 0), 1, 1)
theorem WL.appendS {s x : Operand} {t u e' ty : TypeId} {p : String} {e : Array Edge} {v : Value} {l m : List UInt8} {d : Nat} (i : Nat) (hs : ev L s = some v) (hx : ev L x = some (st m)) (hi : H[i]? = some (.row v e' 1 l.length (l.flatMap byteC)))
    (ht : slB P t e' 1 = true) (hu : strB P u = true) (hinf : byteT P e') (hb : l.length + m.length ≤ 140737488355328) (hw : wantB ops L ⟨some d, .call ⟨.builtin .append, #[s, x], #[t, u]⟩, ty, p, e, none⟩ = some true) (hn : Nat.blt d C.n = true)
    (h : ∀ v', WL P ops Q C ((d, v') :: L) (H.set i (.row v' e' 1 (l ++ m).length ((l ++ m).flatMap byteC))) rest) : WL P ops Q C L H (⟨some d, .call ⟨.builtin .append, #[s, x], #[t, u]⟩, ty, p, e, none⟩ :: rest) := by
  intro a w hf hp
  obtain ⟨inf, q1, q2⟩ := Option.map_eq_some_iff.1 hinf
  simp only [Prod.mk.injEq] at q2
  have hsz : (⟨m.toArray⟩ : ByteArray).size = m.length := by simp [ByteArray.size]
  obtain ⟨v', w', hr, r1, r2, _⟩ := run_append_own_string (P := P) w 0 t u ty e' inf (slB_spec ht).1 (strB_spec hu) q1 q2.1 q2.2.1 q2.2.2 v l.length (l.flatMap byteC) (hp.row hi) ⟨m.toArray⟩ (by rw [hsz]; simp only [maxLen]; omega) (by rw [hsz]; exact hb) (Nat.zero_le _)
  refine wpList_want' (wanted_of hf hw) ?_
  unfold Oper.wp execOp
  simp only [resolve, invoke, builtin, Sem.run_bind, Sem.run_pure, Result.andThen_ok, List.map_toArray, List.map_cons, List.map_nil, hf.ev hs, hf.ev hx, hr]
  refine h v' _ w' (hf.put hn v') (hp.swap hi r2.os r2.tape r2.output r2.size (fun F hF k hk hkF => r2.block k hk (fun e => hkF (by rw [hF.1, ← e]; simp))) (fun F hF _ => ⟨v'.ownBlock.toList, ⟨rfl, ?_⟩, by cases v'.ownBlock <;> simp, fun k hk => ?_⟩))
  · have hc : strCells ⟨m.toArray⟩ = m.flatMap byteC := by rw [byte_flat]; simp [strCells]
    rw [hsz, hc] at r1
    rw [List.length_append, List.flatMap_append]; exact r1
  · have hk' : v'.ownBlock = some k := by simpa using hk
    refine ⟨?_, (r1.lt k hk').2⟩
    rcases append_str_in (slB_spec ht).1 (strB_spec hu) q1 q2.1 q2.2.1 q2.2.2 (hp.row hi) (by rw [hsz]; exact hb) hr hk' with h4 | h4
    · exact .inl (by rw [hF.1, h4]; simp)
    · exact .inr h4
theorem OV.quo8 {x y : Operand} {t t' ty : TypeId} {d : Option Tmp} {p : String} {e : Array Edge} {g : Option (Nat × Bool)} {n m : Int} (hx : ev L x = some (.int .u8 n)) (hy : ev L y = some (.int .u8 m)) (hb : 0 ≤ n ∧ n < 256 ∧ 0 < m) : OV P C L H ⟨d, .binOp .quo t x y t', ty, p, e, g⟩ (.int .u8 (n / m)) := fun a w hf _ => by
  have e1 : n.tdiv m = n / m := Int.tdiv_eq_ediv_of_nonneg hb.1
  have h2 : 0 ≤ n / m := Int.ediv_nonneg hb.1 (by omega)
  have h3 : n / m ≤ n := Int.ediv_le_self m hb.1
  have e2 : IntKind.u8.wrap (n / m) = n / m := IntWalk.u8_in _ ⟨by omega, by omega⟩
  have hm : ¬ m = 0 := by omega
  simp [execOp, hf.ev hx, hf.ev hy, eqGuard, binOp, Op.intDiv, e1, e2, hm]
end Go.Proofs.YtlfolgbaageknaaDoor
