/-
  DERIVED. GIVEN WITH THE SEED: THE CARDS: each row of YtkjnhjhkaaampaaDoorRows.lean that lists a variable, with what it lists TIED to the program's text (the seventh form; the later family's looks); each row that meets fmt, with fmt's text TOLD by the authors' own Lean function (tested against real Go, not proved from fmt's source: count such statements apart). THE CARD IS WHAT COUNTS. Prove the row's statement (the work); the ties are given (YtkjnhjhkaaampaaDoorTie.lean); close each card by the builder's one call (the guide's Derived/Test/ToyasCard.lean, 'card_holds'). Laid BY PROGRAM, IN A SANDBOX (cutbox-door.mjs). By AI agents, Wed Nov 11 2026. No macro, syntax, notation, axiom, sorry.
-/
import Derived.Test.YtkjnhjhkaaampaaDoorRows
import GoSem.ClaimSeven
namespace Go.Proofs.YtkjnhjhkaaampaaDoor
namespace Rows

/-- THE TIED CARD OF 'loupelaw01.ClassShows'. -/
def classShowsCard : Claim7 := { stood := { row := classShowsRow, standIns := [], harness := (true, "7cb38bd6ab75596a5a0908e3b8ae2daaac5221b329fd7ce9c707d89786b33d13"), looks := true }, kinds := [], alts := [], laidByText := true, laidKinds := [.data], laidTests := true, laidLooks := .later }
def ClassShowsCardSaid : Prop := Claim7.holds Tryd.pinned (.plain (OpenSpec.ofChange classShowsSpec)) classShowsCard

/-- THE TIED CARD OF 'loupelaw01.ClassReads'. -/
def classReadsCard : Claim7 := { stood := { row := classReadsRow, standIns := [], harness := (true, "7cb38bd6ab75596a5a0908e3b8ae2daaac5221b329fd7ce9c707d89786b33d13"), looks := true }, kinds := [], alts := [], laidByText := true, laidKinds := [.data], laidTests := true, laidLooks := .later }
def ClassReadsCardSaid : Prop := Claim7.holds Tryd.pinned (.plain (OpenSpec.ofChange classReadsSpec)) classReadsCard

/-- THE TIED CARD OF 'loupelaw01.ClassReadsBack'. -/
def classReadsBackCard : Claim7 := { stood := { row := classReadsBackRow, standIns := [], harness := (true, "7cb38bd6ab75596a5a0908e3b8ae2daaac5221b329fd7ce9c707d89786b33d13"), looks := true }, kinds := [], alts := [], laidByText := true, laidKinds := [.data], laidTests := true, laidLooks := .later }
def ClassReadsBackCardSaid : Prop := Claim7.holds Tryd.pinned (.plain (OpenSpec.ofChange classReadsBackSpec)) classReadsBackCard

/-- THE TIED CARD OF 'loupelaw01.ClassOneText'. -/
def classOneTextCard : Claim7 := { stood := { row := classOneTextRow, standIns := [], harness := (true, "7cb38bd6ab75596a5a0908e3b8ae2daaac5221b329fd7ce9c707d89786b33d13"), looks := true }, kinds := [], alts := [], laidByText := true, laidKinds := [.data], laidTests := true, laidLooks := .later }
def ClassOneTextCardSaid : Prop := Claim7.holds Tryd.pinned (.plain (OpenSpec.ofChange classOneTextSpec)) classOneTextCard

/-- THE SECOND FORM's CARD OF 'loupelaw01.ClassShows'. -/
def classShowsUptoCard : Claim7 := { stood := { row := classShowsUptoRow, standIns := [], harness := (true, "7cb38bd6ab75596a5a0908e3b8ae2daaac5221b329fd7ce9c707d89786b33d13"), looks := true }, kinds := [], alts := [], laidByText := true, laidKinds := [.data], laidTests := true, laidLooks := .later }
def ClassShowsUptoCardSaid : Prop := Claim7.holds Tryd.pinned (.plain (OpenSpec.upto classShowsSpec)) classShowsUptoCard

/-- THE SECOND FORM's CARD OF 'loupelaw01.ClassReads'. -/
def classReadsUptoCard : Claim7 := { stood := { row := classReadsUptoRow, standIns := [], harness := (true, "7cb38bd6ab75596a5a0908e3b8ae2daaac5221b329fd7ce9c707d89786b33d13"), looks := true }, kinds := [], alts := [], laidByText := true, laidKinds := [.data], laidTests := true, laidLooks := .later }
def ClassReadsUptoCardSaid : Prop := Claim7.holds Tryd.pinned (.plain (OpenSpec.upto classReadsSpec)) classReadsUptoCard

/-- THE SECOND FORM's CARD OF 'loupelaw01.ClassReadsBack'. -/
def classReadsBackUptoCard : Claim7 := { stood := { row := classReadsBackUptoRow, standIns := [], harness := (true, "7cb38bd6ab75596a5a0908e3b8ae2daaac5221b329fd7ce9c707d89786b33d13"), looks := true }, kinds := [], alts := [], laidByText := true, laidKinds := [.data], laidTests := true, laidLooks := .later }
def ClassReadsBackUptoCardSaid : Prop := Claim7.holds Tryd.pinned (.plain (OpenSpec.upto classReadsBackSpec)) classReadsBackUptoCard

/-- THE SECOND FORM's CARD OF 'loupelaw01.ClassOneText'. -/
def classOneTextUptoCard : Claim7 := { stood := { row := classOneTextUptoRow, standIns := [], harness := (true, "7cb38bd6ab75596a5a0908e3b8ae2daaac5221b329fd7ce9c707d89786b33d13"), looks := true }, kinds := [], alts := [], laidByText := true, laidKinds := [.data], laidTests := true, laidLooks := .later }
def ClassOneTextUptoCardSaid : Prop := Claim7.holds Tryd.pinned (.plain (OpenSpec.upto classOneTextSpec)) classOneTextUptoCard
end Rows
end Go.Proofs.YtkjnhjhkaaampaaDoor
