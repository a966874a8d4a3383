/-
  DERIVED. GIVEN WITH THE SEED: THE CARDS: each row of YtiaafdjdppganaaDoorRows.lean that lists a variable, with what it lists TIED to the program's text (the seventh form; the later family's looks); each row that meets fmt, with fmt's text TOLD by the authors' own Lean function (tested against real Go, not proved from fmt's source: count such statements apart). THE CARD IS WHAT COUNTS. Prove the row's statement (the work); the ties are given (YtiaafdjdppganaaDoorTie.lean); close each card by the builder's one call (the guide's Derived/Test/ToyasCard.lean, 'card_holds'). Laid BY PROGRAM, IN A SANDBOX (cutbox-door.mjs). By AI agents, Wed Nov 11 2026. No macro, syntax, notation, axiom, sorry.
-/
import Derived.Test.YtiaafdjdppganaaDoorRows
import GoSem.ClaimSeven
namespace Go.Proofs.YtiaafdjdppganaaDoor
namespace Rows

/-- THE TIED CARD OF 'loupelaw11.PlaceOfs'. -/
def placeOfsCard : Claim7 := { stood := { row := placeOfsRow, standIns := [], harness := (true, "9b244da6982d75a1f44effd456c716d6fabfdb7160fd4a29a36bcfec3cdff452"), looks := false }, kinds := [], alts := [], laidByText := true, laidKinds := [.data, .data, .data], laidTests := true, laidLooks := .later }
def PlaceOfsCardSaid : Prop := Claim7.holds Tryd.pinned (.plain (OpenSpec.ofChange placeOfsSpec)) placeOfsCard

/-- THE TIED CARD OF 'loupelaw11.PlaceQuotes'. -/
def placeQuotesCard : Claim7 := { stood := { row := placeQuotesRow, standIns := [], harness := (true, "9b244da6982d75a1f44effd456c716d6fabfdb7160fd4a29a36bcfec3cdff452"), looks := false }, kinds := [], alts := [], laidByText := true, laidKinds := [.data, .data, .data], laidTests := true, laidLooks := .later }
def PlaceQuotesCardSaid : Prop := Claim7.holds Tryd.pinned (.plain (OpenSpec.ofChange placeQuotesSpec)) placeQuotesCard

/-- THE TIED CARD OF 'loupelaw11.PlaceNames'. -/
def placeNamesCard : Claim7 := { stood := { row := placeNamesRow, standIns := [], harness := (true, "9b244da6982d75a1f44effd456c716d6fabfdb7160fd4a29a36bcfec3cdff452"), looks := false }, kinds := [], alts := [], laidByText := true, laidKinds := [.data, .data, .data], laidTests := true, laidLooks := .later }
def PlaceNamesCardSaid : Prop := Claim7.holds Tryd.pinned (.plain (OpenSpec.ofChange placeNamesSpec)) placeNamesCard

/-- THE TIED CARD OF 'loupelaw11.PlaceSays'. -/
def placeSaysCard : Claim7 := { stood := { row := placeSaysRow, standIns := [], harness := (true, "9b244da6982d75a1f44effd456c716d6fabfdb7160fd4a29a36bcfec3cdff452"), looks := false }, kinds := [], alts := [], laidByText := true, laidKinds := [.data, .data, .data], laidTests := true, laidLooks := .later }
def PlaceSaysCardSaid : Prop := Claim7.holds Tryd.pinned (.plain (OpenSpec.ofChange placeSaysSpec)) placeSaysCard

/-- THE TIED CARD OF 'loupelaw11.PlaceOffsets'. -/
def placeOffsetsCard : Claim7 := { stood := { row := placeOffsetsRow, standIns := [], harness := (true, "9b244da6982d75a1f44effd456c716d6fabfdb7160fd4a29a36bcfec3cdff452"), looks := false }, kinds := [], alts := [], laidByText := true, laidKinds := [.data, .data, .data], laidTests := true, laidLooks := .later }
def PlaceOffsetsCardSaid : Prop := Claim7.holds Tryd.pinned (.plain (OpenSpec.ofChange placeOffsetsSpec)) placeOffsetsCard

/-- THE TIED CARD OF 'loupelaw11.PlaceThereAndBack'. -/
def placeThereAndBackCard : Claim7 := { stood := { row := placeThereAndBackRow, standIns := [], harness := (true, "9b244da6982d75a1f44effd456c716d6fabfdb7160fd4a29a36bcfec3cdff452"), looks := false }, kinds := [], alts := [], laidByText := true, laidKinds := [.data, .data, .data], laidTests := true, laidLooks := .later }
def PlaceThereAndBackCardSaid : Prop := Claim7.holds Tryd.pinned (.plain (OpenSpec.ofChange placeThereAndBackSpec)) placeThereAndBackCard

/-- THE SECOND FORM's CARD OF 'loupelaw11.PlaceOfs'. -/
def placeOfsUptoCard : Claim7 := { stood := { row := placeOfsUptoRow, standIns := [], harness := (true, "9b244da6982d75a1f44effd456c716d6fabfdb7160fd4a29a36bcfec3cdff452"), looks := false }, kinds := [], alts := [], laidByText := true, laidKinds := [.data, .data, .data], laidTests := true, laidLooks := .later }
def PlaceOfsUptoCardSaid : Prop := Claim7.holds Tryd.pinned (.plain (OpenSpec.upto placeOfsSpec)) placeOfsUptoCard

/-- THE SECOND FORM's CARD OF 'loupelaw11.PlaceQuotes'. -/
def placeQuotesUptoCard : Claim7 := { stood := { row := placeQuotesUptoRow, standIns := [], harness := (true, "9b244da6982d75a1f44effd456c716d6fabfdb7160fd4a29a36bcfec3cdff452"), looks := false }, kinds := [], alts := [], laidByText := true, laidKinds := [.data, .data, .data], laidTests := true, laidLooks := .later }
def PlaceQuotesUptoCardSaid : Prop := Claim7.holds Tryd.pinned (.plain (OpenSpec.upto placeQuotesSpec)) placeQuotesUptoCard

/-- THE SECOND FORM's CARD OF 'loupelaw11.PlaceNames'. -/
def placeNamesUptoCard : Claim7 := { stood := { row := placeNamesUptoRow, standIns := [], harness := (true, "9b244da6982d75a1f44effd456c716d6fabfdb7160fd4a29a36bcfec3cdff452"), looks := false }, kinds := [], alts := [], laidByText := true, laidKinds := [.data, .data, .data], laidTests := true, laidLooks := .later }
def PlaceNamesUptoCardSaid : Prop := Claim7.holds Tryd.pinned (.plain (OpenSpec.upto placeNamesSpec)) placeNamesUptoCard

/-- THE SECOND FORM's CARD OF 'loupelaw11.PlaceSays'. -/
def placeSaysUptoCard : Claim7 := { stood := { row := placeSaysUptoRow, standIns := [], harness := (true, "9b244da6982d75a1f44effd456c716d6fabfdb7160fd4a29a36bcfec3cdff452"), looks := false }, kinds := [], alts := [], laidByText := true, laidKinds := [.data, .data, .data], laidTests := true, laidLooks := .later }
def PlaceSaysUptoCardSaid : Prop := Claim7.holds Tryd.pinned (.plain (OpenSpec.upto placeSaysSpec)) placeSaysUptoCard

/-- THE SECOND FORM's CARD OF 'loupelaw11.PlaceOffsets'. -/
def placeOffsetsUptoCard : Claim7 := { stood := { row := placeOffsetsUptoRow, standIns := [], harness := (true, "9b244da6982d75a1f44effd456c716d6fabfdb7160fd4a29a36bcfec3cdff452"), looks := false }, kinds := [], alts := [], laidByText := true, laidKinds := [.data, .data, .data], laidTests := true, laidLooks := .later }
def PlaceOffsetsUptoCardSaid : Prop := Claim7.holds Tryd.pinned (.plain (OpenSpec.upto placeOffsetsSpec)) placeOffsetsUptoCard

/-- THE SECOND FORM's CARD OF 'loupelaw11.PlaceThereAndBack'. -/
def placeThereAndBackUptoCard : Claim7 := { stood := { row := placeThereAndBackUptoRow, standIns := [], harness := (true, "9b244da6982d75a1f44effd456c716d6fabfdb7160fd4a29a36bcfec3cdff452"), looks := false }, kinds := [], alts := [], laidByText := true, laidKinds := [.data, .data, .data], laidTests := true, laidLooks := .later }
def PlaceThereAndBackUptoCardSaid : Prop := Claim7.holds Tryd.pinned (.plain (OpenSpec.upto placeThereAndBackSpec)) placeThereAndBackUptoCard
end Rows
end Go.Proofs.YtiaafdjdppganaaDoor
