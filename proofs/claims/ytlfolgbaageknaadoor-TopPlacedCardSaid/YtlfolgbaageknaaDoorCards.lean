/-
  DERIVED. GIVEN WITH THE SEED: THE CARDS: each row of YtlfolgbaageknaaDoorRows.lean that lists a variable, with what it lists TIED to the program's text (the seventh form; the later family's looks); each row that meets fmt, with fmt's text TOLD by the authors' own Lean function (tested against real Go, not proved from fmt's source: count such statements apart). THE CARD IS WHAT COUNTS. Prove the row's statement (the work); the ties are given (YtlfolgbaageknaaDoorTie.lean); close each card by the builder's one call (the guide's Derived/Test/ToyasCard.lean, 'card_holds'). Laid BY PROGRAM, IN A SANDBOX (cutbox-door.mjs). By AI agents, Wed Nov 11 2026. No macro, syntax, notation, axiom, sorry.
-/
import Derived.Test.YtlfolgbaageknaaDoorRows
import GoSem.ClaimSeven
namespace Go.Proofs.YtlfolgbaageknaaDoor
namespace Rows

/-- THE TIED CARD OF 'loupetop.TopPlaced'. -/
def topPlacedCard : Claim7 := { stood := { row := topPlacedRow, standIns := [], harness := (true, "0482a6b5c85af9589a46babf00813b7a16d4819de918a7180a7a399b7453aa91"), looks := false }, kinds := [], alts := [], laidByText := true, laidKinds := [.data, .data, .data], laidTests := true, laidLooks := .later }
def TopPlacedCardSaid : Prop := Claim7.holds Tryd.pinned (.plain (OpenSpec.ofChange topPlacedSpec)) topPlacedCard

/-- THE SECOND FORM's CARD OF 'loupetop.TopPlaced'. -/
def topPlacedUptoCard : Claim7 := { stood := { row := topPlacedUptoRow, standIns := [], harness := (true, "0482a6b5c85af9589a46babf00813b7a16d4819de918a7180a7a399b7453aa91"), looks := false }, kinds := [], alts := [], laidByText := true, laidKinds := [.data, .data, .data], laidTests := true, laidLooks := .later }
def TopPlacedUptoCardSaid : Prop := Claim7.holds Tryd.pinned (.plain (OpenSpec.upto topPlacedSpec)) topPlacedUptoCard
end Rows
end Go.Proofs.YtlfolgbaageknaaDoor
