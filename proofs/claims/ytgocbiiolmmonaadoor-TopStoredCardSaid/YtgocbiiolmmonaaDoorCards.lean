/-
  DERIVED. GIVEN WITH THE SEED: THE CARDS: each row of YtgocbiiolmmonaaDoorRows.lean that lists a variable, with what it lists TIED to the program's text (the seventh form; the later family's looks); each row that meets fmt, with fmt's text TOLD by the authors' own Lean function (tested against real Go, not proved from fmt's source: count such statements apart). THE CARD IS WHAT COUNTS. Prove the row's statement (the work); the ties are given (YtgocbiiolmmonaaDoorTie.lean); close each card by the builder's one call (the guide's Derived/Test/ToyasCard.lean, 'card_holds'). Laid BY PROGRAM, IN A SANDBOX (cutbox-door.mjs). By AI agents, Wed Nov 11 2026. No macro, syntax, notation, axiom, sorry.
-/
import Derived.Test.YtgocbiiolmmonaaDoorRows
import GoSem.ClaimSeven
namespace Go.Proofs.YtgocbiiolmmonaaDoor
namespace Rows

/-- THE TIED CARD OF 'loupetop.TopStored'. -/
def topStoredCard : Claim7 := { stood := { row := topStoredRow, standIns := [], harness := (true, "32281ffcbc7b5bf79dc56c2fc81950d426f70e4b07ec4f25e270cbd3546d24d7"), looks := true }, kinds := [], alts := [], laidByText := true, laidKinds := [.data, .data, .data, .data, .sentinel, .sentinel, .widerDeep, .sentinel, .sentinel, .sentinel, .sentinel, .pinned], laidTests := true, laidLooks := .later }
def TopStoredCardSaid : Prop := Claim7.holds Tryd.pinned (.plain (OpenSpec.ofChange topStoredSpec)) topStoredCard

/-- THE SECOND FORM's CARD OF 'loupetop.TopStored'. -/
def topStoredUptoCard : Claim7 := { stood := { row := topStoredUptoRow, standIns := [], harness := (true, "32281ffcbc7b5bf79dc56c2fc81950d426f70e4b07ec4f25e270cbd3546d24d7"), looks := true }, kinds := [], alts := [], laidByText := true, laidKinds := [.data, .data, .data, .data, .sentinel, .sentinel, .widerDeep, .sentinel, .sentinel, .sentinel, .sentinel, .pinned], laidTests := true, laidLooks := .later }
def TopStoredUptoCardSaid : Prop := Claim7.holds Tryd.pinned (.plain (OpenSpec.upto topStoredSpec)) topStoredUptoCard
end Rows
end Go.Proofs.YtgocbiiolmmonaaDoor
