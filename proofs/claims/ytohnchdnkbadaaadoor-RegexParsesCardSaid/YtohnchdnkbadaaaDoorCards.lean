/-
  DERIVED. GIVEN WITH THE SEED: THE CARDS: each row of YtohnchdnkbadaaaDoorRows.lean that lists a variable, with what it lists TIED to the program's text (the seventh form; the later family's looks); each row that meets fmt, with fmt's text TOLD by the authors' own Lean function (tested against real Go, not proved from fmt's source: count such statements apart). THE CARD IS WHAT COUNTS. Prove the row's statement (the work); the ties are given (YtohnchdnkbadaaaDoorTie.lean); close each card by the builder's one call (the guide's Derived/Test/ToyasCard.lean, 'card_holds'). Laid BY PROGRAM, IN A SANDBOX (cutbox-door.mjs). By AI agents, Wed Nov 11 2026. No macro, syntax, notation, axiom, sorry.
-/
import Derived.Test.YtohnchdnkbadaaaDoorRows
import GoSem.ClaimSeven
namespace Go.Proofs.YtohnchdnkbadaaaDoor
namespace Rows

/-- THE TIED CARD OF 'loupelaw02.RegexPlains'. -/
def regexPlainsCard : Claim7 := { stood := { row := regexPlainsRow, standIns := [], harness := (true, "cf6c0e74f752b30b73daa1856c4d52525a361e8f9e9515207d2f42d5f620107d"), looks := true }, kinds := [], alts := [], laidByText := true, laidKinds := [.data], laidTests := true, laidLooks := .later }
def RegexPlainsCardSaid : Prop := Claim7.holds Tryd.pinned (.plain (OpenSpec.ofChange regexPlainsSpec)) regexPlainsCard

/-- THE TIED CARD OF 'loupelaw02.RegexParses'. -/
def regexParsesCard : Claim7 := { stood := { row := regexParsesRow, standIns := [], harness := (true, "cf6c0e74f752b30b73daa1856c4d52525a361e8f9e9515207d2f42d5f620107d"), looks := true }, kinds := [], alts := [], laidByText := true, laidKinds := [.data], laidTests := true, laidLooks := .later }
def RegexParsesCardSaid : Prop := Claim7.holds Tryd.pinned (.plain (OpenSpec.ofChange regexParsesSpec)) regexParsesCard

/-- THE TIED CARD OF 'loupelaw02.RegexSigns'. -/
def regexSignsCard : Claim7 := { stood := { row := regexSignsRow, standIns := [], harness := (true, "cf6c0e74f752b30b73daa1856c4d52525a361e8f9e9515207d2f42d5f620107d"), looks := true }, kinds := [], alts := [], laidByText := true, laidKinds := [.data], laidTests := true, laidLooks := .later }
def RegexSignsCardSaid : Prop := Claim7.holds Tryd.pinned (.plain (OpenSpec.ofChange regexSignsSpec)) regexSignsCard

/-- THE TIED CARD OF 'loupelaw02.RegexThereAndBack'. -/
def regexThereAndBackCard : Claim7 := { stood := { row := regexThereAndBackRow, standIns := [], harness := (true, "cf6c0e74f752b30b73daa1856c4d52525a361e8f9e9515207d2f42d5f620107d"), looks := true }, kinds := [], alts := [], laidByText := true, laidKinds := [.data], laidTests := true, laidLooks := .later }
def RegexThereAndBackCardSaid : Prop := Claim7.holds Tryd.pinned (.plain (OpenSpec.ofChange regexThereAndBackSpec)) regexThereAndBackCard

/-- THE TIED CARD OF 'loupelaw02.RegexSames'. -/
def regexSamesCard : Claim7 := { stood := { row := regexSamesRow, standIns := [], harness := (true, "cf6c0e74f752b30b73daa1856c4d52525a361e8f9e9515207d2f42d5f620107d"), looks := true }, kinds := [], alts := [], laidByText := true, laidKinds := [.data], laidTests := true, laidLooks := .later }
def RegexSamesCardSaid : Prop := Claim7.holds Tryd.pinned (.plain (OpenSpec.ofChange regexSamesSpec)) regexSamesCard

/-- THE TIED CARD OF 'loupelaw02.RegexNil'. -/
def regexNilCard : Claim7 := { stood := { row := regexNilRow, standIns := [], harness := (true, "cf6c0e74f752b30b73daa1856c4d52525a361e8f9e9515207d2f42d5f620107d"), looks := true }, kinds := [], alts := [], laidByText := true, laidKinds := [.data], laidTests := true, laidLooks := .later }
def RegexNilCardSaid : Prop := Claim7.holds Tryd.pinned (.plain (OpenSpec.ofChange regexNilSpec)) regexNilCard

/-- THE TIED CARD OF 'loupelaw13.SyntaxParses'. -/
def syntaxParsesCard : Claim7 := { stood := { row := syntaxParsesRow, standIns := [], harness := (true, "cf6c0e74f752b30b73daa1856c4d52525a361e8f9e9515207d2f42d5f620107d"), looks := true }, kinds := [], alts := [], laidByText := true, laidKinds := [.data], laidTests := true, laidLooks := .later }
def SyntaxParsesCardSaid : Prop := Claim7.holds Tryd.pinned (.plain (OpenSpec.ofChange syntaxParsesSpec)) syntaxParsesCard

/-- THE TIED CARD OF 'loupelaw13.SyntaxPrints'. -/
def syntaxPrintsCard : Claim7 := { stood := { row := syntaxPrintsRow, standIns := [], harness := (true, "cf6c0e74f752b30b73daa1856c4d52525a361e8f9e9515207d2f42d5f620107d"), looks := true }, kinds := [], alts := [], laidByText := true, laidKinds := [.data], laidTests := true, laidLooks := .later }
def SyntaxPrintsCardSaid : Prop := Claim7.holds Tryd.pinned (.plain (OpenSpec.ofChange syntaxPrintsSpec)) syntaxPrintsCard

/-- THE TIED CARD OF 'loupelaw13.SyntaxThereAndBack'. -/
def syntaxThereAndBackCard : Claim7 := { stood := { row := syntaxThereAndBackRow, standIns := [], harness := (true, "cf6c0e74f752b30b73daa1856c4d52525a361e8f9e9515207d2f42d5f620107d"), looks := true }, kinds := [], alts := [], laidByText := true, laidKinds := [.data], laidTests := true, laidLooks := .later }
def SyntaxThereAndBackCardSaid : Prop := Claim7.holds Tryd.pinned (.plain (OpenSpec.ofChange syntaxThereAndBackSpec)) syntaxThereAndBackCard

/-- THE TIED CARD OF 'loupelaw13.SyntaxWrapped'. -/
def syntaxWrappedCard : Claim7 := { stood := { row := syntaxWrappedRow, standIns := [], harness := (true, "cf6c0e74f752b30b73daa1856c4d52525a361e8f9e9515207d2f42d5f620107d"), looks := true }, kinds := [], alts := [], laidByText := true, laidKinds := [.data], laidTests := true, laidLooks := .later }
def SyntaxWrappedCardSaid : Prop := Claim7.holds Tryd.pinned (.plain (OpenSpec.ofChange syntaxWrappedSpec)) syntaxWrappedCard

/-- THE TIED CARD OF 'loupelaw13.SyntaxLets'. -/
def syntaxLetsCard : Claim7 := { stood := { row := syntaxLetsRow, standIns := [], harness := (true, "cf6c0e74f752b30b73daa1856c4d52525a361e8f9e9515207d2f42d5f620107d"), looks := true }, kinds := [], alts := [], laidByText := true, laidKinds := [.data], laidTests := true, laidLooks := .later }
def SyntaxLetsCardSaid : Prop := Claim7.holds Tryd.pinned (.plain (OpenSpec.ofChange syntaxLetsSpec)) syntaxLetsCard

/-- THE SECOND FORM's CARD OF 'loupelaw02.RegexPlains'. -/
def regexPlainsUptoCard : Claim7 := { stood := { row := regexPlainsUptoRow, standIns := [], harness := (true, "cf6c0e74f752b30b73daa1856c4d52525a361e8f9e9515207d2f42d5f620107d"), looks := true }, kinds := [], alts := [], laidByText := true, laidKinds := [.data], laidTests := true, laidLooks := .later }
def RegexPlainsUptoCardSaid : Prop := Claim7.holds Tryd.pinned (.plain (OpenSpec.upto regexPlainsSpec)) regexPlainsUptoCard

/-- THE SECOND FORM's CARD OF 'loupelaw02.RegexParses'. -/
def regexParsesUptoCard : Claim7 := { stood := { row := regexParsesUptoRow, standIns := [], harness := (true, "cf6c0e74f752b30b73daa1856c4d52525a361e8f9e9515207d2f42d5f620107d"), looks := true }, kinds := [], alts := [], laidByText := true, laidKinds := [.data], laidTests := true, laidLooks := .later }
def RegexParsesUptoCardSaid : Prop := Claim7.holds Tryd.pinned (.plain (OpenSpec.upto regexParsesSpec)) regexParsesUptoCard

/-- THE SECOND FORM's CARD OF 'loupelaw02.RegexSigns'. -/
def regexSignsUptoCard : Claim7 := { stood := { row := regexSignsUptoRow, standIns := [], harness := (true, "cf6c0e74f752b30b73daa1856c4d52525a361e8f9e9515207d2f42d5f620107d"), looks := true }, kinds := [], alts := [], laidByText := true, laidKinds := [.data], laidTests := true, laidLooks := .later }
def RegexSignsUptoCardSaid : Prop := Claim7.holds Tryd.pinned (.plain (OpenSpec.upto regexSignsSpec)) regexSignsUptoCard

/-- THE SECOND FORM's CARD OF 'loupelaw02.RegexThereAndBack'. -/
def regexThereAndBackUptoCard : Claim7 := { stood := { row := regexThereAndBackUptoRow, standIns := [], harness := (true, "cf6c0e74f752b30b73daa1856c4d52525a361e8f9e9515207d2f42d5f620107d"), looks := true }, kinds := [], alts := [], laidByText := true, laidKinds := [.data], laidTests := true, laidLooks := .later }
def RegexThereAndBackUptoCardSaid : Prop := Claim7.holds Tryd.pinned (.plain (OpenSpec.upto regexThereAndBackSpec)) regexThereAndBackUptoCard

/-- THE SECOND FORM's CARD OF 'loupelaw02.RegexSames'. -/
def regexSamesUptoCard : Claim7 := { stood := { row := regexSamesUptoRow, standIns := [], harness := (true, "cf6c0e74f752b30b73daa1856c4d52525a361e8f9e9515207d2f42d5f620107d"), looks := true }, kinds := [], alts := [], laidByText := true, laidKinds := [.data], laidTests := true, laidLooks := .later }
def RegexSamesUptoCardSaid : Prop := Claim7.holds Tryd.pinned (.plain (OpenSpec.upto regexSamesSpec)) regexSamesUptoCard

/-- THE SECOND FORM's CARD OF 'loupelaw02.RegexNil'. -/
def regexNilUptoCard : Claim7 := { stood := { row := regexNilUptoRow, standIns := [], harness := (true, "cf6c0e74f752b30b73daa1856c4d52525a361e8f9e9515207d2f42d5f620107d"), looks := true }, kinds := [], alts := [], laidByText := true, laidKinds := [.data], laidTests := true, laidLooks := .later }
def RegexNilUptoCardSaid : Prop := Claim7.holds Tryd.pinned (.plain (OpenSpec.upto regexNilSpec)) regexNilUptoCard

/-- THE SECOND FORM's CARD OF 'loupelaw13.SyntaxParses'. -/
def syntaxParsesUptoCard : Claim7 := { stood := { row := syntaxParsesUptoRow, standIns := [], harness := (true, "cf6c0e74f752b30b73daa1856c4d52525a361e8f9e9515207d2f42d5f620107d"), looks := true }, kinds := [], alts := [], laidByText := true, laidKinds := [.data], laidTests := true, laidLooks := .later }
def SyntaxParsesUptoCardSaid : Prop := Claim7.holds Tryd.pinned (.plain (OpenSpec.upto syntaxParsesSpec)) syntaxParsesUptoCard

/-- THE SECOND FORM's CARD OF 'loupelaw13.SyntaxPrints'. -/
def syntaxPrintsUptoCard : Claim7 := { stood := { row := syntaxPrintsUptoRow, standIns := [], harness := (true, "cf6c0e74f752b30b73daa1856c4d52525a361e8f9e9515207d2f42d5f620107d"), looks := true }, kinds := [], alts := [], laidByText := true, laidKinds := [.data], laidTests := true, laidLooks := .later }
def SyntaxPrintsUptoCardSaid : Prop := Claim7.holds Tryd.pinned (.plain (OpenSpec.upto syntaxPrintsSpec)) syntaxPrintsUptoCard

/-- THE SECOND FORM's CARD OF 'loupelaw13.SyntaxThereAndBack'. -/
def syntaxThereAndBackUptoCard : Claim7 := { stood := { row := syntaxThereAndBackUptoRow, standIns := [], harness := (true, "cf6c0e74f752b30b73daa1856c4d52525a361e8f9e9515207d2f42d5f620107d"), looks := true }, kinds := [], alts := [], laidByText := true, laidKinds := [.data], laidTests := true, laidLooks := .later }
def SyntaxThereAndBackUptoCardSaid : Prop := Claim7.holds Tryd.pinned (.plain (OpenSpec.upto syntaxThereAndBackSpec)) syntaxThereAndBackUptoCard

/-- THE SECOND FORM's CARD OF 'loupelaw13.SyntaxWrapped'. -/
def syntaxWrappedUptoCard : Claim7 := { stood := { row := syntaxWrappedUptoRow, standIns := [], harness := (true, "cf6c0e74f752b30b73daa1856c4d52525a361e8f9e9515207d2f42d5f620107d"), looks := true }, kinds := [], alts := [], laidByText := true, laidKinds := [.data], laidTests := true, laidLooks := .later }
def SyntaxWrappedUptoCardSaid : Prop := Claim7.holds Tryd.pinned (.plain (OpenSpec.upto syntaxWrappedSpec)) syntaxWrappedUptoCard

/-- THE SECOND FORM's CARD OF 'loupelaw13.SyntaxLets'. -/
def syntaxLetsUptoCard : Claim7 := { stood := { row := syntaxLetsUptoRow, standIns := [], harness := (true, "cf6c0e74f752b30b73daa1856c4d52525a361e8f9e9515207d2f42d5f620107d"), looks := true }, kinds := [], alts := [], laidByText := true, laidKinds := [.data], laidTests := true, laidLooks := .later }
def SyntaxLetsUptoCardSaid : Prop := Claim7.holds Tryd.pinned (.plain (OpenSpec.upto syntaxLetsSpec)) syntaxLetsUptoCard
end Rows
end Go.Proofs.YtohnchdnkbadaaaDoor
