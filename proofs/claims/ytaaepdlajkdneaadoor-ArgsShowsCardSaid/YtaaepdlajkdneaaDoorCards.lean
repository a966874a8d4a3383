/-
  DERIVED. GIVEN WITH THE SEED: THE CARDS: each row of YtaaepdlajkdneaaDoorRows.lean that lists a variable, with what it lists TIED to the program's text (the seventh form; the later family's looks); each row that meets fmt, with fmt's text TOLD by the authors' own Lean function (tested against real Go, not proved from fmt's source: count such statements apart). THE CARD IS WHAT COUNTS. Prove the row's statement (the work); the ties are given (YtaaepdlajkdneaaDoorTie.lean); close each card by the builder's one call (the guide's Derived/Test/ToyasCard.lean, 'card_holds'). Laid BY PROGRAM, IN A SANDBOX (cutbox-door.mjs). By AI agents, Wed Nov 11 2026. No macro, syntax, notation, axiom, sorry.
-/
import Derived.Test.YtaaepdlajkdneaaDoorRows
import GoSem.ClaimSeven
namespace Go.Proofs.YtaaepdlajkdneaaDoor
namespace Rows

/-- THE TIED CARD OF 'loupelaw26.ArgsParses'. -/
def argsParsesCard : Claim7 := { stood := { row := argsParsesRow, standIns := [], harness := (true, "9ccf717edb5fd26c37fcb7146de2a88c11ba99f771472901d3e58edf3dfb97d9"), looks := true }, kinds := [], alts := [], laidByText := true, laidKinds := [.data, .data, .data, .data, .sentinel, .sentinel, .widerDeep, .pinned], laidTests := true, laidLooks := .later }
def ArgsParsesCardSaid : Prop := Claim7.holds Tryd.pinned (.plain (OpenSpec.ofChange argsParsesSpec)) argsParsesCard

/-- THE TIED CARD OF 'loupelaw26.ArgsOrder'. -/
def argsOrderCard : Claim7 := { stood := { row := argsOrderRow, standIns := [], harness := (true, "9ccf717edb5fd26c37fcb7146de2a88c11ba99f771472901d3e58edf3dfb97d9"), looks := true }, kinds := [], alts := [], laidByText := true, laidKinds := [.data, .data, .data, .data, .sentinel, .sentinel, .widerDeep, .pinned], laidTests := true, laidLooks := .later }
def ArgsOrderCardSaid : Prop := Claim7.holds Tryd.pinned (.plain (OpenSpec.ofChange argsOrderSpec)) argsOrderCard

/-- THE TIED CARD OF 'loupelaw26.ArgsShows'. -/
def argsShowsCard : Claim7 := { stood := { row := argsShowsRow, standIns := [], harness := (true, "9ccf717edb5fd26c37fcb7146de2a88c11ba99f771472901d3e58edf3dfb97d9"), looks := true }, kinds := [], alts := [], laidByText := true, laidKinds := [.data, .data, .data, .data, .sentinel, .sentinel, .widerDeep, .pinned], laidTests := true, laidLooks := .later }
def ArgsShowsCardSaid : Prop := Claim7.holds Tryd.pinned (.plain (OpenSpec.ofChange argsShowsSpec)) argsShowsCard

/-- THE SECOND FORM's CARD OF 'loupelaw26.ArgsParses'. -/
def argsParsesUptoCard : Claim7 := { stood := { row := argsParsesUptoRow, standIns := [], harness := (true, "9ccf717edb5fd26c37fcb7146de2a88c11ba99f771472901d3e58edf3dfb97d9"), looks := true }, kinds := [], alts := [], laidByText := true, laidKinds := [.data, .data, .data, .data, .sentinel, .sentinel, .widerDeep, .pinned], laidTests := true, laidLooks := .later }
def ArgsParsesUptoCardSaid : Prop := Claim7.holds Tryd.pinned (.plain (OpenSpec.upto argsParsesSpec)) argsParsesUptoCard

/-- THE SECOND FORM's CARD OF 'loupelaw26.ArgsOrder'. -/
def argsOrderUptoCard : Claim7 := { stood := { row := argsOrderUptoRow, standIns := [], harness := (true, "9ccf717edb5fd26c37fcb7146de2a88c11ba99f771472901d3e58edf3dfb97d9"), looks := true }, kinds := [], alts := [], laidByText := true, laidKinds := [.data, .data, .data, .data, .sentinel, .sentinel, .widerDeep, .pinned], laidTests := true, laidLooks := .later }
def ArgsOrderUptoCardSaid : Prop := Claim7.holds Tryd.pinned (.plain (OpenSpec.upto argsOrderSpec)) argsOrderUptoCard

/-- THE SECOND FORM's CARD OF 'loupelaw26.ArgsShows'. -/
def argsShowsUptoCard : Claim7 := { stood := { row := argsShowsUptoRow, standIns := [], harness := (true, "9ccf717edb5fd26c37fcb7146de2a88c11ba99f771472901d3e58edf3dfb97d9"), looks := true }, kinds := [], alts := [], laidByText := true, laidKinds := [.data, .data, .data, .data, .sentinel, .sentinel, .widerDeep, .pinned], laidTests := true, laidLooks := .later }
def ArgsShowsUptoCardSaid : Prop := Claim7.holds Tryd.pinned (.plain (OpenSpec.upto argsShowsSpec)) argsShowsUptoCard
end Rows
end Go.Proofs.YtaaepdlajkdneaaDoor
