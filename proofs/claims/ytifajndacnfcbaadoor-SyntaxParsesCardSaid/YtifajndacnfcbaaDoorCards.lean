/-
  DERIVED. GIVEN WITH THE SEED: THE CARDS: each row of YtifajndacnfcbaaDoorRows.lean that lists a variable, with what it lists TIED to the program's text (the seventh form; the later family's looks); each row that meets fmt, with fmt's text TOLD by the authors' own Lean function (tested against real Go, not proved from fmt's source: count such statements apart). THE CARD IS WHAT COUNTS. Prove the row's statement (the work); the ties are given (YtifajndacnfcbaaDoorTie.lean); close each card by the builder's one call (the guide's Derived/Test/ToyasCard.lean, 'card_holds'). Laid BY PROGRAM, IN A SANDBOX (cutbox-door.mjs). By AI agents, Wed Nov 11 2026. No macro, syntax, notation, axiom, sorry.
-/
import Derived.Test.YtifajndacnfcbaaDoorRows
import GoSem.ClaimSeven
namespace Go.Proofs.YtifajndacnfcbaaDoor
namespace Rows

/-- THE TIED CARD OF 'loupelaw13.SyntaxParses'. -/
def syntaxParsesCard : Claim7 := { stood := { row := syntaxParsesRow, standIns := [], harness := (true, "b3a9660f0fb3636cbe5a173779d40a5f0a37535a9cdaddb7e27556e1e08cd422"), looks := true }, kinds := [], alts := [], laidByText := true, laidKinds := [.data], laidTests := true, laidLooks := .later }
def SyntaxParsesCardSaid : Prop := Claim7.holds Tryd.pinned (.plain (OpenSpec.ofChange syntaxParsesSpec)) syntaxParsesCard

/-- THE TIED CARD OF 'loupelaw13.SyntaxPrints'. -/
def syntaxPrintsCard : Claim7 := { stood := { row := syntaxPrintsRow, standIns := [], harness := (true, "b3a9660f0fb3636cbe5a173779d40a5f0a37535a9cdaddb7e27556e1e08cd422"), looks := true }, kinds := [], alts := [], laidByText := true, laidKinds := [.data], laidTests := true, laidLooks := .later }
def SyntaxPrintsCardSaid : Prop := Claim7.holds Tryd.pinned (.plain (OpenSpec.ofChange syntaxPrintsSpec)) syntaxPrintsCard

/-- THE TIED CARD OF 'loupelaw13.SyntaxThereAndBack'. -/
def syntaxThereAndBackCard : Claim7 := { stood := { row := syntaxThereAndBackRow, standIns := [], harness := (true, "b3a9660f0fb3636cbe5a173779d40a5f0a37535a9cdaddb7e27556e1e08cd422"), looks := true }, kinds := [], alts := [], laidByText := true, laidKinds := [.data], laidTests := true, laidLooks := .later }
def SyntaxThereAndBackCardSaid : Prop := Claim7.holds Tryd.pinned (.plain (OpenSpec.ofChange syntaxThereAndBackSpec)) syntaxThereAndBackCard

/-- THE TIED CARD OF 'loupelaw13.SyntaxWrapped'. -/
def syntaxWrappedCard : Claim7 := { stood := { row := syntaxWrappedRow, standIns := [], harness := (true, "b3a9660f0fb3636cbe5a173779d40a5f0a37535a9cdaddb7e27556e1e08cd422"), looks := true }, kinds := [], alts := [], laidByText := true, laidKinds := [.data], laidTests := true, laidLooks := .later }
def SyntaxWrappedCardSaid : Prop := Claim7.holds Tryd.pinned (.plain (OpenSpec.ofChange syntaxWrappedSpec)) syntaxWrappedCard

/-- THE TIED CARD OF 'loupelaw13.SyntaxLets'. -/
def syntaxLetsCard : Claim7 := { stood := { row := syntaxLetsRow, standIns := [], harness := (true, "b3a9660f0fb3636cbe5a173779d40a5f0a37535a9cdaddb7e27556e1e08cd422"), looks := true }, kinds := [], alts := [], laidByText := true, laidKinds := [.data], laidTests := true, laidLooks := .later }
def SyntaxLetsCardSaid : Prop := Claim7.holds Tryd.pinned (.plain (OpenSpec.ofChange syntaxLetsSpec)) syntaxLetsCard

/-- THE SECOND FORM's CARD OF 'loupelaw13.SyntaxParses'. -/
def syntaxParsesUptoCard : Claim7 := { stood := { row := syntaxParsesUptoRow, standIns := [], harness := (true, "b3a9660f0fb3636cbe5a173779d40a5f0a37535a9cdaddb7e27556e1e08cd422"), looks := true }, kinds := [], alts := [], laidByText := true, laidKinds := [.data], laidTests := true, laidLooks := .later }
def SyntaxParsesUptoCardSaid : Prop := Claim7.holds Tryd.pinned (.plain (OpenSpec.upto syntaxParsesSpec)) syntaxParsesUptoCard

/-- THE SECOND FORM's CARD OF 'loupelaw13.SyntaxPrints'. -/
def syntaxPrintsUptoCard : Claim7 := { stood := { row := syntaxPrintsUptoRow, standIns := [], harness := (true, "b3a9660f0fb3636cbe5a173779d40a5f0a37535a9cdaddb7e27556e1e08cd422"), looks := true }, kinds := [], alts := [], laidByText := true, laidKinds := [.data], laidTests := true, laidLooks := .later }
def SyntaxPrintsUptoCardSaid : Prop := Claim7.holds Tryd.pinned (.plain (OpenSpec.upto syntaxPrintsSpec)) syntaxPrintsUptoCard

/-- THE SECOND FORM's CARD OF 'loupelaw13.SyntaxThereAndBack'. -/
def syntaxThereAndBackUptoCard : Claim7 := { stood := { row := syntaxThereAndBackUptoRow, standIns := [], harness := (true, "b3a9660f0fb3636cbe5a173779d40a5f0a37535a9cdaddb7e27556e1e08cd422"), looks := true }, kinds := [], alts := [], laidByText := true, laidKinds := [.data], laidTests := true, laidLooks := .later }
def SyntaxThereAndBackUptoCardSaid : Prop := Claim7.holds Tryd.pinned (.plain (OpenSpec.upto syntaxThereAndBackSpec)) syntaxThereAndBackUptoCard

/-- THE SECOND FORM's CARD OF 'loupelaw13.SyntaxWrapped'. -/
def syntaxWrappedUptoCard : Claim7 := { stood := { row := syntaxWrappedUptoRow, standIns := [], harness := (true, "b3a9660f0fb3636cbe5a173779d40a5f0a37535a9cdaddb7e27556e1e08cd422"), looks := true }, kinds := [], alts := [], laidByText := true, laidKinds := [.data], laidTests := true, laidLooks := .later }
def SyntaxWrappedUptoCardSaid : Prop := Claim7.holds Tryd.pinned (.plain (OpenSpec.upto syntaxWrappedSpec)) syntaxWrappedUptoCard

/-- THE SECOND FORM's CARD OF 'loupelaw13.SyntaxLets'. -/
def syntaxLetsUptoCard : Claim7 := { stood := { row := syntaxLetsUptoRow, standIns := [], harness := (true, "b3a9660f0fb3636cbe5a173779d40a5f0a37535a9cdaddb7e27556e1e08cd422"), looks := true }, kinds := [], alts := [], laidByText := true, laidKinds := [.data], laidTests := true, laidLooks := .later }
def SyntaxLetsUptoCardSaid : Prop := Claim7.holds Tryd.pinned (.plain (OpenSpec.upto syntaxLetsSpec)) syntaxLetsUptoCard
end Rows
end Go.Proofs.YtifajndacnfcbaaDoor
