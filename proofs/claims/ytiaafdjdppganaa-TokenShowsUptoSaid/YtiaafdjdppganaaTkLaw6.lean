/-
  TokenShows returns true for every list of bulk at most 1048576 (the second form), and leaves its argument as it was.
-/
import Derived.Test.YtiaafdjdppganaaRows
import Derived.Test.YtiaafdjdppganaaLiftT
import Derived.Test.YtiaafdjdppganaaOpen
import Derived.Test.YtiaafdjdppganaaTkX
import Derived.JoinedCond
import Derived.OpenShut
import Derived.Deep.CondSized
namespace Go.Proofs.Ytiaafdjdppganaa
open Go Go.ChangeShapes Go.WideShapes Go.ChangeAt Go.RowKit

section
variable {H : Type} {enc : TypeId × Value → H} {W : World} {base : Nat} {spare : Nat → Bool} {held : Bool}
theorem piece_el (n : Nat) (cs : List Value) (y : DataW H × List MemPlace) (h : DataW.trod enc Try.prog W base spare held n 39 cs = some y) : ∃ x : Tok, cs = tokC x ∧ y.1 = .agg [.lit (.int .i64 x.1), .lit (.int .i64 x.2.1), .lit (.string x.2.2)] := by
  have k1 : Try.prog.cellsOf 3 = 1 := by kernel_rfl
  have k2 : Try.prog.cellsOf 9 = 1 := by kernel_rfl
  obtain ⟨xs, m, _, rfl, hl, hlen, hf⟩ := DataW.trod_struct Try.underlying39 h
  have hl3 : cs.length = 3 := hl.trans (by kernel_rfl)
  match cs, hl3, xs, hlen with
  | [c0, c1, c2], _, [y0, y1, y2], _ =>
    have h0' : DataW.trod enc Try.prog W base spare held m 3 [c0] = some y0 := by
      have h : DataW.trod enc Try.prog W base spare held m 3 (List.take (Try.prog.cellsOf 3) (List.drop 0 [c0, c1, c2])) = some y0 := hf 0 _ rfl
      rw [k1] at h; exact h
    have h1' : DataW.trod enc Try.prog W base spare held m 3 [c1] = some y1 := by
      have h : DataW.trod enc Try.prog W base spare held m 3 (List.take (Try.prog.cellsOf 3) (List.drop 1 [c0, c1, c2])) = some y1 := hf 1 _ rfl
      rw [k1] at h; exact h
    have h2' : DataW.trod enc Try.prog W base spare held m 9 [c2] = some y2 := by
      have h : DataW.trod enc Try.prog W base spare held m 9 (List.take (Try.prog.cellsOf 9) (List.drop 2 [c0, c1, c2])) = some y2 := hf 2 _ rfl
      rw [k2] at h; exact h
    obtain ⟨a, e0, rfl, _⟩ := DataW.trod_int Try.underlying3 h0'
    obtain ⟨b, e1, rfl, _⟩ := DataW.trod_int Try.underlying3 h1'
    obtain ⟨s, e2, rfl, _⟩ := DataW.trod_string Try.underlying9 h2'
    simp only [List.cons.injEq, and_true] at e0 e1 e2
    subst e0; subst e1; subst e2
    exact ⟨(a, b, s.data.toList), rfl, rfl⟩
theorem bulk_one (d : DataW H) : 1 ≤ Rows.uptoBulk d := by
  cases d with
  | lit l => cases l <;> simp [Rows.uptoBulk]
  | nil => simp [Rows.uptoBulk]
  | ptr d => simp [Rows.uptoBulk]
  | slice elems spare => simp [Rows.uptoBulk]
  | agg parts => simp [Rows.uptoBulk]
  | iface t d => simp [Rows.uptoBulk]
  | map entries => simp [Rows.uptoBulk]
  | held h => simp [Rows.uptoBulk]
theorem bulk_part {d : DataW H} {l : List (DataW H)} (h : d ∈ l) : Rows.uptoBulk d ≤ Rows.uptoBulkAll l := by
  induction l with
  | nil => cases h
  | cons x r ih =>
    simp only [Rows.uptoBulkAll]
    rcases List.mem_cons.1 h with e | e
    · subst e; omega
    · have := ih e; omega
theorem bulk_len (l : List (DataW H)) : l.length ≤ Rows.uptoBulkAll l := by
  induction l with
  | nil => simp [Rows.uptoBulkAll]
  | cons x r ih => have := bulk_one x; simp only [Rows.uptoBulkAll, List.length_cons]; omega
end

set_option maxRecDepth 100000 in
theorem tokenShowsUpto_lifted (os : Os) (started : os.Started) (H : Type) (enc : TypeId × Value → H) (F : Stop.Interp) :
    ReturnsInHanded {} Try.checked os 7 .any ((Rows.OpenSpec.upto Rows.tokenShowsSpec).pre6 enc Try.prog Try.f7 Rows.tokenShowsUptoRow.domain false) (((Rows.OpenSpec.upto Rows.tokenShowsSpec).at F).post enc Try.prog Try.f7 false true false false) := by
  refine returnsInHanded_of_cond (C := Try.checked) (s := Rows.OpenSpec.upto Rows.tokenShowsSpec) (k := Rows.uptoSmall) rfl own_none started (by kernel_rfl) Try.func7
    (OpenSpec.witness (enc := enc) (C := Try.checked) (s := Rows.OpenSpec.upto Rows.tokenShowsSpec) (k := Rows.uptoSmall) rfl false ⟨#[], #[.slice none 0 0], []⟩ 8 (by kernel_rfl) (by kernel_rfl) (by kernel_rfl)
      (x := ([.nil], [], [])) (by kernel_rfl) rfl (by kernel_rfl)) ?_
  intro W base args ds gs before hval0 hW _ hk _
  have hval : ∀ (j : Nat) t v, Try.f7.params[j]? = some t → args[j]? = some v → Value.okWide Try.prog W .any base t v := hval0
  have hW' := hW
  obtain ⟨p, q, hA0, hV, rfl, _, _⟩ := hW
  have hA : DataW.TrodAll enc Try.prog W 0 (fun _ => true) true Try.f7.params.toList args.toList ds p := hA0
  rw [Try.params7] at hA hval
  obtain ⟨v0, d0, rfl, rfl, h0⟩ := trodAll_one hA
  obtain ⟨rfl, rfl⟩ := trodVars_none hV
  obtain ⟨R, l, hR, hRW, hd⟩ := open_in Try.underlying38 (show Try.prog.cellsOf 39 = 3 by kernel_rfl) (by decide) tokC_len (G := fun x d => d = .agg [.lit (.int .i64 x.1), .lit (.int .i64 x.2.1), .lit (.string x.2.2)]) (fun n cs y hy => piece_el n cs y hy) (hval 0 _ v0 rfl rfl) h0
  have hbd : ShowBd l := by
    have h := of_decide_eq_true hk
    simp only [List.append_nil, Rows.uptoBulkAll] at h
    rcases hd with ⟨_, rfl⟩ | ⟨es, sp, rfl, hel, hall⟩
    · exact ⟨by simp, fun x hx => by cases hx⟩
    · simp only [Rows.uptoBulk] at h
      have h1 := bulk_len es
      refine ⟨by omega, fun x hx => ?_⟩
      obtain ⟨i, hi⟩ := List.mem_iff_getElem?.1 hx
      obtain ⟨y, hy, rfl⟩ := hall i x hi
      have h2 := bulk_part (List.mem_of_getElem? hy)
      simp only [Rows.uptoBulk, Rows.uptoBulkAll] at h2
      omega
  refine (tokenShows_does v0 l R hR hbd W [] rfl List.nodup_nil (fun k hk => by cases hk) (fun q hq => ⟨hRW q (by simpa using hq), by simp⟩)).mono ?_
  rintro e W' ⟨H', hS, hp⟩
  rcases hS with ⟨r, rfl, hS⟩ | ⟨c, rfl, hS⟩
  · cases hS
    exact ⟨_, rfl, law_post laid_out rfl Try.underlying4 (by kernel_rfl) rfl hW' rfl hp.toBelow⟩
  · cases hS

theorem tokenShowsUpto_holds : Rows.TokenShowsUptoSaid :=
  OpenClaim.holds_of_cond 7 Try.f7 rfl rfl rfl rfl rfl rfl rfl ⟨rfl, rfl, rfl, rfl, rfl⟩ rfl rfl rfl rfl rfl (by kernel_rfl) Try.func7 (by kernel_rfl)
    (of_decide_eq_true (by kernel_rfl)) (by unfold Func.isWrapper; rw [if_neg (of_decide_eq_false (by kernel_rfl))]; exact ⟨rfl, rfl⟩)
    (fun os started H enc _ F => tokenShowsUpto_lifted os started H enc F)

end Go.Proofs.Ytiaafdjdppganaa
