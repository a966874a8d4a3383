/-
  NARROWER THAN 'FOR EVERY INPUT', by the rows' own cells (each row's printed sentence says how): SyntaxParses: laid · SyntaxPrints: laid · SyntaxThereAndBack: laid · SyntaxWrapped: laid · SyntaxLets: laid.
  DERIVED. THE GIVEN ROWS OF THIS SEAT. 5 by the template 'for every input the law returns true; each argument reads behind the call as it read before'; 0 by the template 'total and deterministic' (their statements: YtifajndacnfcbaaDoorTotals.lean).
  GIVEN WITH THE SEED: the statements are not yours to turn. If you find one false, say at which input.
  Laid BY PROGRAM, IN A SANDBOX (cutbox-rows.mjs): the forced cells as the released guide's own fill.sh prints them over the translation 9f0d85b5402b6cad… (all of the seat's roots in one cut). By AI agents, Wed Nov 11 2026. No macro, syntax, notation, axiom, sorry.
-/
import Derived.Test.YtifajndacnfcbaaDoorChecked
import GoSem.Claim
import GoSem.ClaimJoined
import GoSem.ClaimMapViews
import Derived.JoinedTies
import Derived.KernelRfl
namespace Go.Proofs.YtifajndacnfcbaaDoor
/- THE CELL 'sum', in the pinned program and in every row, IS THE sha256 OF THE DUMP (.gsa) THAT YtifajndacnfcbaaDoorProg.lean LOADS. Nothing in Lean hashes anything: it is a label: what it is worth is what the hold of that sum in a sandbox is worth. -/
noncomputable def Tryd.pinned : Pinned := { name := "ytifajndacnfcbaadoor", sum := "9f0d85b5402b6cad3107bbc88b94fc5ae5e6dd4478b73fb038db9245fe47d3d3", checked := Tryd.checked }
namespace Rows
def none {H : Type} : Left H := { results := [], args := [] }

/- WHAT THE LISTED PACKAGE-LEVEL VARIABLES READ AS WHEN THE CALL BEGINS. Each datum BY PROGRAM (the guide's laid-datum.mjs) off the statement by which the dump's own 'gosem.cut.vars' lays the variable. In a bare row this is a premise. The card (YtifajndacnfcbaaDoorCards.lean) ties it to the program's text. -/
def laid_loupe_syntax_ranks {H : Type} : DataW H := .agg [.lit (.string [124]), .lit (.string [38, 45]), .lit (.string [62, 62]), .lit (.string [126]), .lit (.string [46])]

/-- 'loupelaw13.SyntaxParses': WHATEVER THE INPUT: true; the input reads as it did. -/
def syntaxParsesSpec : ChangeSpec := { name := "syntaxParses", fn := fun _ => fun
  | [d] => { results := [.lit (.bool true)], args := [d] }
  | _ => none }
def syntaxParsesRow : OpenClaim := { program := "ytifajndacnfcbaadoor", sum := "9f0d85b5402b6cad3107bbc88b94fc5ae5e6dd4478b73fb038db9245fe47d3d3", func := "loupe/loupelaw13.SyntaxParses", spec := "syntaxParses", inPlace := ["internal/bytealg.IndexByteString", "internal/bytealg.IndexString", "internal/abi.NoEscape"], unfollowed := true, recurses := true, named := ["loupe/syntax.ranks", "internal/bytealg.MaxLen"], apart := false, laid := [("loupe/syntax.ranks", laid_loupe_syntax_ranks)] }
def SyntaxParsesSaid : Prop := syntaxParsesRow.holds Tryd.pinned (OpenSpec.ofChange syntaxParsesSpec)

/-- ITS FALSE NEIGHBOUR: 'it returns false'. Refute it at one input. -/
def syntaxParsesWrong : ChangeSpec := { name := "syntaxParses", fn := fun _ => fun
  | [d] => { results := [.lit (.bool false)], args := [d] }
  | _ => none }
def SyntaxParsesWrongFalsely : Prop := syntaxParsesRow.holds Tryd.pinned (OpenSpec.ofChange syntaxParsesWrong)

/-- 'loupelaw13.SyntaxPrints': WHATEVER THE INPUT: true; the input reads as it did. -/
def syntaxPrintsSpec : ChangeSpec := { name := "syntaxPrints", fn := fun _ => fun
  | [d] => { results := [.lit (.bool true)], args := [d] }
  | _ => none }
def syntaxPrintsRow : OpenClaim := { program := "ytifajndacnfcbaadoor", sum := "9f0d85b5402b6cad3107bbc88b94fc5ae5e6dd4478b73fb038db9245fe47d3d3", func := "loupe/loupelaw13.SyntaxPrints", spec := "syntaxPrints", inPlace := ["internal/bytealg.IndexByteString", "internal/bytealg.IndexString", "internal/abi.NoEscape"], unfollowed := true, recurses := true, named := ["loupe/syntax.ranks", "internal/bytealg.MaxLen"], apart := false, laid := [("loupe/syntax.ranks", laid_loupe_syntax_ranks)] }
def SyntaxPrintsSaid : Prop := syntaxPrintsRow.holds Tryd.pinned (OpenSpec.ofChange syntaxPrintsSpec)

/-- ITS FALSE NEIGHBOUR: 'it returns false'. Refute it at one input. -/
def syntaxPrintsWrong : ChangeSpec := { name := "syntaxPrints", fn := fun _ => fun
  | [d] => { results := [.lit (.bool false)], args := [d] }
  | _ => none }
def SyntaxPrintsWrongFalsely : Prop := syntaxPrintsRow.holds Tryd.pinned (OpenSpec.ofChange syntaxPrintsWrong)

/-- 'loupelaw13.SyntaxThereAndBack': WHATEVER THE INPUT: true; the input reads as it did. -/
def syntaxThereAndBackSpec : ChangeSpec := { name := "syntaxThereAndBack", fn := fun _ => fun
  | [d] => { results := [.lit (.bool true)], args := [d] }
  | _ => none }
def syntaxThereAndBackRow : OpenClaim := { program := "ytifajndacnfcbaadoor", sum := "9f0d85b5402b6cad3107bbc88b94fc5ae5e6dd4478b73fb038db9245fe47d3d3", func := "loupe/loupelaw13.SyntaxThereAndBack", spec := "syntaxThereAndBack", inPlace := ["internal/bytealg.IndexByteString", "internal/bytealg.IndexString", "internal/abi.NoEscape"], unfollowed := true, recurses := true, named := ["loupe/syntax.ranks", "internal/bytealg.MaxLen"], apart := false, laid := [("loupe/syntax.ranks", laid_loupe_syntax_ranks)] }
def SyntaxThereAndBackSaid : Prop := syntaxThereAndBackRow.holds Tryd.pinned (OpenSpec.ofChange syntaxThereAndBackSpec)

/-- ITS FALSE NEIGHBOUR: 'it returns false'. Refute it at one input. -/
def syntaxThereAndBackWrong : ChangeSpec := { name := "syntaxThereAndBack", fn := fun _ => fun
  | [d] => { results := [.lit (.bool false)], args := [d] }
  | _ => none }
def SyntaxThereAndBackWrongFalsely : Prop := syntaxThereAndBackRow.holds Tryd.pinned (OpenSpec.ofChange syntaxThereAndBackWrong)

/-- 'loupelaw13.SyntaxWrapped': WHATEVER THE INPUT: true; the input reads as it did. -/
def syntaxWrappedSpec : ChangeSpec := { name := "syntaxWrapped", fn := fun _ => fun
  | [d] => { results := [.lit (.bool true)], args := [d] }
  | _ => none }
def syntaxWrappedRow : OpenClaim := { program := "ytifajndacnfcbaadoor", sum := "9f0d85b5402b6cad3107bbc88b94fc5ae5e6dd4478b73fb038db9245fe47d3d3", func := "loupe/loupelaw13.SyntaxWrapped", spec := "syntaxWrapped", inPlace := ["internal/bytealg.IndexByteString", "internal/bytealg.IndexString", "internal/abi.NoEscape"], unfollowed := true, recurses := true, named := ["loupe/syntax.ranks", "internal/bytealg.MaxLen"], apart := false, laid := [("loupe/syntax.ranks", laid_loupe_syntax_ranks)] }
def SyntaxWrappedSaid : Prop := syntaxWrappedRow.holds Tryd.pinned (OpenSpec.ofChange syntaxWrappedSpec)

/-- ITS FALSE NEIGHBOUR: 'it returns false'. Refute it at one input. -/
def syntaxWrappedWrong : ChangeSpec := { name := "syntaxWrapped", fn := fun _ => fun
  | [d] => { results := [.lit (.bool false)], args := [d] }
  | _ => none }
def SyntaxWrappedWrongFalsely : Prop := syntaxWrappedRow.holds Tryd.pinned (OpenSpec.ofChange syntaxWrappedWrong)

/-- 'loupelaw13.SyntaxLets': WHATEVER THE INPUT: true; the input reads as it did. -/
def syntaxLetsSpec : ChangeSpec := { name := "syntaxLets", fn := fun _ => fun
  | [d] => { results := [.lit (.bool true)], args := [d] }
  | _ => none }
def syntaxLetsRow : OpenClaim := { program := "ytifajndacnfcbaadoor", sum := "9f0d85b5402b6cad3107bbc88b94fc5ae5e6dd4478b73fb038db9245fe47d3d3", func := "loupe/loupelaw13.SyntaxLets", spec := "syntaxLets", inPlace := ["internal/bytealg.IndexByteString", "internal/bytealg.IndexString", "internal/abi.NoEscape"], unfollowed := true, recurses := true, named := ["loupe/syntax.ranks", "internal/bytealg.MaxLen"], apart := false, laid := [("loupe/syntax.ranks", laid_loupe_syntax_ranks)] }
def SyntaxLetsSaid : Prop := syntaxLetsRow.holds Tryd.pinned (OpenSpec.ofChange syntaxLetsSpec)

/-- ITS FALSE NEIGHBOUR: 'it returns false'. Refute it at one input. -/
def syntaxLetsWrong : ChangeSpec := { name := "syntaxLets", fn := fun _ => fun
  | [d] => { results := [.lit (.bool false)], args := [d] }
  | _ => none }
def SyntaxLetsWrongFalsely : Prop := syntaxLetsRow.holds Tryd.pinned (OpenSpec.ofChange syntaxLetsWrong)

/- THE SECOND FORM. 'bulk': how many values and letters a reading holds, each counted each time it is reached (what is shared counts as often as it is met; a slice's spare places count too). A statement '..UptoSaid' is the law's where the arguments, and the package variables that the reading takes, are together of bulk at most 1048576: NARROWER than '..Said'. Prove '..Said' where nothing that the law and all that it calls make is longer than what came in: it says more and counts as full. Else prove '..UptoSaid'. A law counts once. -/
mutual
def uptoBulk {H : Type} : DataW H → Nat
  | .lit (.string bytes) => bytes.length + 1
  | .lit _ => 1
  | .nil => 1
  | .ptr d => uptoBulk d + 1
  | .slice elems spare => uptoBulkAll elems + uptoBulkAll spare + 1
  | .agg parts => uptoBulkAll parts + 1
  | .iface _ d => uptoBulk d + 1
  | .map entries => uptoBulkEntries entries + 1
  | .held _ => 1
def uptoBulkAll {H : Type} : List (DataW H) → Nat
  | [] => 0
  | d :: r => uptoBulk d + uptoBulkAll r
def uptoBulkEntries {H : Type} : List (Lit × DataW H) → Nat
  | [] => 0
  | x :: r => uptoBulkEntry x + uptoBulkEntries r
def uptoBulkEntry {H : Type} : Lit × DataW H → Nat
  | (.string bytes, d) => bytes.length + uptoBulk d + 1
  | (_, d) => uptoBulk d + 1
 end
def uptoSmall : (H : Type) → List (DataW H) → Bool := fun _ ds => decide (uptoBulkAll ds ≤ 1048576)
def OpenSpec.upto (s : _root_.Go.ChangeSpec) : _root_.Go.OpenSpec := { _root_.Go.OpenSpec.ofChange s with cond := some uptoSmall }

/-- 'loupelaw13.SyntaxParses', WHERE WHAT IT READS IS OF BULK AT MOST 1048576: true; the input reads as it did. -/
def syntaxParsesUptoRow : OpenClaim := { program := "ytifajndacnfcbaadoor", sum := "9f0d85b5402b6cad3107bbc88b94fc5ae5e6dd4478b73fb038db9245fe47d3d3", func := "loupe/loupelaw13.SyntaxParses", spec := "syntaxParses", inPlace := ["internal/bytealg.IndexByteString", "internal/bytealg.IndexString", "internal/abi.NoEscape"], unfollowed := true, recurses := true, named := ["loupe/syntax.ranks", "internal/bytealg.MaxLen"], apart := false, laid := [("loupe/syntax.ranks", laid_loupe_syntax_ranks)], narrowed := true }
def SyntaxParsesUptoSaid : Prop := syntaxParsesUptoRow.holds Tryd.pinned (OpenSpec.upto syntaxParsesSpec)

/-- 'loupelaw13.SyntaxPrints', WHERE WHAT IT READS IS OF BULK AT MOST 1048576: true; the input reads as it did. -/
def syntaxPrintsUptoRow : OpenClaim := { program := "ytifajndacnfcbaadoor", sum := "9f0d85b5402b6cad3107bbc88b94fc5ae5e6dd4478b73fb038db9245fe47d3d3", func := "loupe/loupelaw13.SyntaxPrints", spec := "syntaxPrints", inPlace := ["internal/bytealg.IndexByteString", "internal/bytealg.IndexString", "internal/abi.NoEscape"], unfollowed := true, recurses := true, named := ["loupe/syntax.ranks", "internal/bytealg.MaxLen"], apart := false, laid := [("loupe/syntax.ranks", laid_loupe_syntax_ranks)], narrowed := true }
def SyntaxPrintsUptoSaid : Prop := syntaxPrintsUptoRow.holds Tryd.pinned (OpenSpec.upto syntaxPrintsSpec)

/-- 'loupelaw13.SyntaxThereAndBack', WHERE WHAT IT READS IS OF BULK AT MOST 1048576: true; the input reads as it did. -/
def syntaxThereAndBackUptoRow : OpenClaim := { program := "ytifajndacnfcbaadoor", sum := "9f0d85b5402b6cad3107bbc88b94fc5ae5e6dd4478b73fb038db9245fe47d3d3", func := "loupe/loupelaw13.SyntaxThereAndBack", spec := "syntaxThereAndBack", inPlace := ["internal/bytealg.IndexByteString", "internal/bytealg.IndexString", "internal/abi.NoEscape"], unfollowed := true, recurses := true, named := ["loupe/syntax.ranks", "internal/bytealg.MaxLen"], apart := false, laid := [("loupe/syntax.ranks", laid_loupe_syntax_ranks)], narrowed := true }
def SyntaxThereAndBackUptoSaid : Prop := syntaxThereAndBackUptoRow.holds Tryd.pinned (OpenSpec.upto syntaxThereAndBackSpec)

/-- 'loupelaw13.SyntaxWrapped', WHERE WHAT IT READS IS OF BULK AT MOST 1048576: true; the input reads as it did. -/
def syntaxWrappedUptoRow : OpenClaim := { program := "ytifajndacnfcbaadoor", sum := "9f0d85b5402b6cad3107bbc88b94fc5ae5e6dd4478b73fb038db9245fe47d3d3", func := "loupe/loupelaw13.SyntaxWrapped", spec := "syntaxWrapped", inPlace := ["internal/bytealg.IndexByteString", "internal/bytealg.IndexString", "internal/abi.NoEscape"], unfollowed := true, recurses := true, named := ["loupe/syntax.ranks", "internal/bytealg.MaxLen"], apart := false, laid := [("loupe/syntax.ranks", laid_loupe_syntax_ranks)], narrowed := true }
def SyntaxWrappedUptoSaid : Prop := syntaxWrappedUptoRow.holds Tryd.pinned (OpenSpec.upto syntaxWrappedSpec)

/-- 'loupelaw13.SyntaxLets', WHERE WHAT IT READS IS OF BULK AT MOST 1048576: true; the input reads as it did. -/
def syntaxLetsUptoRow : OpenClaim := { program := "ytifajndacnfcbaadoor", sum := "9f0d85b5402b6cad3107bbc88b94fc5ae5e6dd4478b73fb038db9245fe47d3d3", func := "loupe/loupelaw13.SyntaxLets", spec := "syntaxLets", inPlace := ["internal/bytealg.IndexByteString", "internal/bytealg.IndexString", "internal/abi.NoEscape"], unfollowed := true, recurses := true, named := ["loupe/syntax.ranks", "internal/bytealg.MaxLen"], apart := false, laid := [("loupe/syntax.ranks", laid_loupe_syntax_ranks)], narrowed := true }
def SyntaxLetsUptoSaid : Prop := syntaxLetsUptoRow.holds Tryd.pinned (OpenSpec.upto syntaxLetsSpec)

end Rows
end Go.Proofs.YtifajndacnfcbaaDoor
