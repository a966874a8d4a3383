/-
  NARROWER THAN 'FOR EVERY INPUT', by the rows' own cells (each row's printed sentence says how): ClassShows: laid · ClassReads: laid · ClassReadsBack: laid · ClassOneText: laid.
  DERIVED. THE GIVEN ROWS OF THIS SEAT. 4 by the template 'for every input the law returns true; each argument reads behind the call as it read before'; 0 by the template 'total and deterministic' (their statements: YtkjnhjhkaaampaaDoorTotals.lean).
  GIVEN WITH THE SEED: the statements are not yours to turn. If you find one false, say at which input.
  Laid BY PROGRAM, IN A SANDBOX (cutbox-rows.mjs): the forced cells as the released guide's own fill.sh prints them over the translation 82275d8adc2f9ac8… (all of the seat's roots in one cut). By AI agents, Wed Nov 11 2026. No macro, syntax, notation, axiom, sorry.
-/
import Derived.Test.YtkjnhjhkaaampaaDoorChecked
import GoSem.Claim
import GoSem.ClaimJoined
import GoSem.ClaimMapViews
import Derived.JoinedTies
import Derived.KernelRfl
namespace Go.Proofs.YtkjnhjhkaaampaaDoor
/- THE CELL 'sum', in the pinned program and in every row, IS THE sha256 OF THE DUMP (.gsa) THAT YtkjnhjhkaaampaaDoorProg.lean LOADS. Nothing in Lean hashes anything: it is a label: what it is worth is what the hold of that sum in a sandbox is worth. -/
noncomputable def Tryd.pinned : Pinned := { name := "ytkjnhjhkaaampaadoor", sum := "82275d8adc2f9ac88c486e2ce44eb06f24364de434c543d64d9f56bd0f620088", checked := Tryd.checked }
namespace Rows
def none {H : Type} : Left H := { results := [], args := [] }

/- WHAT THE LISTED PACKAGE-LEVEL VARIABLES READ AS WHEN THE CALL BEGINS. Each datum BY PROGRAM (the guide's laid-datum.mjs) off the statement by which the dump's own 'gosem.cut.vars' lays the variable. In a bare row this is a premise. The card (YtkjnhjhkaaampaaDoorCards.lean) ties it to the program's text. -/
def laid_loupe_class_escapes {H : Type} : DataW H := .agg [.agg [.lit (.int .u8 110), .lit (.int .u8 10)], .agg [.lit (.int .u8 114), .lit (.int .u8 13)], .agg [.lit (.int .u8 116), .lit (.int .u8 9)]]

/-- 'loupelaw01.ClassShows': WHATEVER THE INPUT: true; the input reads as it did. -/
def classShowsSpec : ChangeSpec := { name := "classShows", fn := fun _ => fun
  | [d] => { results := [.lit (.bool true)], args := [d] }
  | _ => none }
def classShowsRow : OpenClaim := { program := "ytkjnhjhkaaampaadoor", sum := "82275d8adc2f9ac88c486e2ce44eb06f24364de434c543d64d9f56bd0f620088", func := "loupe/loupelaw01.ClassShows", spec := "classShows", inPlace := ["internal/bytealg.IndexByteString"], named := ["loupe/class.escapes"], apart := false, laid := [("loupe/class.escapes", laid_loupe_class_escapes)] }
def ClassShowsSaid : Prop := classShowsRow.holds Tryd.pinned (OpenSpec.ofChange classShowsSpec)

/-- ITS FALSE NEIGHBOUR: 'it returns false'. Refute it at one input. -/
def classShowsWrong : ChangeSpec := { name := "classShows", fn := fun _ => fun
  | [d] => { results := [.lit (.bool false)], args := [d] }
  | _ => none }
def ClassShowsWrongFalsely : Prop := classShowsRow.holds Tryd.pinned (OpenSpec.ofChange classShowsWrong)

/-- 'loupelaw01.ClassReads': WHATEVER THE INPUT: true; the input reads as it did. -/
def classReadsSpec : ChangeSpec := { name := "classReads", fn := fun _ => fun
  | [d1, d2] => { results := [.lit (.bool true)], args := [d1, d2] }
  | _ => none }
def classReadsRow : OpenClaim := { program := "ytkjnhjhkaaampaadoor", sum := "82275d8adc2f9ac88c486e2ce44eb06f24364de434c543d64d9f56bd0f620088", func := "loupe/loupelaw01.ClassReads", spec := "classReads", inPlace := ["internal/bytealg.IndexByteString"], unfollowed := true, recurses := true, named := ["loupe/class.escapes"], apart := false, laid := [("loupe/class.escapes", laid_loupe_class_escapes)] }
def ClassReadsSaid : Prop := classReadsRow.holds Tryd.pinned (OpenSpec.ofChange classReadsSpec)

/-- ITS FALSE NEIGHBOUR: 'it returns false'. Refute it at one input. -/
def classReadsWrong : ChangeSpec := { name := "classReads", fn := fun _ => fun
  | [d1, d2] => { results := [.lit (.bool false)], args := [d1, d2] }
  | _ => none }
def ClassReadsWrongFalsely : Prop := classReadsRow.holds Tryd.pinned (OpenSpec.ofChange classReadsWrong)

/-- 'loupelaw01.ClassReadsBack': WHATEVER THE INPUT: true; the input reads as it did. -/
def classReadsBackSpec : ChangeSpec := { name := "classReadsBack", fn := fun _ => fun
  | [d1, d2, d3] => { results := [.lit (.bool true)], args := [d1, d2, d3] }
  | _ => none }
def classReadsBackRow : OpenClaim := { program := "ytkjnhjhkaaampaadoor", sum := "82275d8adc2f9ac88c486e2ce44eb06f24364de434c543d64d9f56bd0f620088", func := "loupe/loupelaw01.ClassReadsBack", spec := "classReadsBack", inPlace := ["internal/bytealg.IndexByteString"], unfollowed := true, recurses := true, named := ["loupe/class.escapes"], apart := false, laid := [("loupe/class.escapes", laid_loupe_class_escapes)] }
def ClassReadsBackSaid : Prop := classReadsBackRow.holds Tryd.pinned (OpenSpec.ofChange classReadsBackSpec)

/-- ITS FALSE NEIGHBOUR: 'it returns false'. Refute it at one input. -/
def classReadsBackWrong : ChangeSpec := { name := "classReadsBack", fn := fun _ => fun
  | [d1, d2, d3] => { results := [.lit (.bool false)], args := [d1, d2, d3] }
  | _ => none }
def ClassReadsBackWrongFalsely : Prop := classReadsBackRow.holds Tryd.pinned (OpenSpec.ofChange classReadsBackWrong)

/-- 'loupelaw01.ClassOneText': WHATEVER THE INPUT: true; the input reads as it did. -/
def classOneTextSpec : ChangeSpec := { name := "classOneText", fn := fun _ => fun
  | [d1, d2, d3] => { results := [.lit (.bool true)], args := [d1, d2, d3] }
  | _ => none }
def classOneTextRow : OpenClaim := { program := "ytkjnhjhkaaampaadoor", sum := "82275d8adc2f9ac88c486e2ce44eb06f24364de434c543d64d9f56bd0f620088", func := "loupe/loupelaw01.ClassOneText", spec := "classOneText", inPlace := ["internal/bytealg.IndexByteString"], unfollowed := true, recurses := true, named := ["loupe/class.escapes"], apart := false, laid := [("loupe/class.escapes", laid_loupe_class_escapes)] }
def ClassOneTextSaid : Prop := classOneTextRow.holds Tryd.pinned (OpenSpec.ofChange classOneTextSpec)

/-- ITS FALSE NEIGHBOUR: 'it returns false'. Refute it at one input. -/
def classOneTextWrong : ChangeSpec := { name := "classOneText", fn := fun _ => fun
  | [d1, d2, d3] => { results := [.lit (.bool false)], args := [d1, d2, d3] }
  | _ => none }
def ClassOneTextWrongFalsely : Prop := classOneTextRow.holds Tryd.pinned (OpenSpec.ofChange classOneTextWrong)

/- THE SECOND FORM. 'bulk': how many values and letters a reading holds, each counted each time it is reached (what is shared counts as often as it is met; a slice's spare places count too). A statement '..UptoSaid' is the law's where the arguments, and the package variables that the reading takes, are together of bulk at most 1048576: NARROWER than '..Said'. Prove '..Said' where nothing that the law and all that it calls make is longer than what came in: it says more and counts as full. Else prove '..UptoSaid'. A law counts once. -/
mutual
def uptoBulk {H : Type} : DataW H → Nat
  | .lit (.string bytes) => bytes.length + 1
  | .lit _ => 1
  | .nil => 1
  | .ptr d => uptoBulk d + 1
  | .slice elems spare => uptoBulkAll elems + uptoBulkAll spare + 1
  | .agg parts => uptoBulkAll parts + 1
  | .iface _ d => uptoBulk d + 1
  | .map entries => uptoBulkEntries entries + 1
  | .held _ => 1
def uptoBulkAll {H : Type} : List (DataW H) → Nat
  | [] => 0
  | d :: r => uptoBulk d + uptoBulkAll r
def uptoBulkEntries {H : Type} : List (Lit × DataW H) → Nat
  | [] => 0
  | x :: r => uptoBulkEntry x + uptoBulkEntries r
def uptoBulkEntry {H : Type} : Lit × DataW H → Nat
  | (.string bytes, d) => bytes.length + uptoBulk d + 1
  | (_, d) => uptoBulk d + 1
 end
def uptoSmall : (H : Type) → List (DataW H) → Bool := fun _ ds => decide (uptoBulkAll ds ≤ 1048576)
def OpenSpec.upto (s : _root_.Go.ChangeSpec) : _root_.Go.OpenSpec := { _root_.Go.OpenSpec.ofChange s with cond := some uptoSmall }

/-- 'loupelaw01.ClassShows', WHERE WHAT IT READS IS OF BULK AT MOST 1048576: true; the input reads as it did. -/
def classShowsUptoRow : OpenClaim := { program := "ytkjnhjhkaaampaadoor", sum := "82275d8adc2f9ac88c486e2ce44eb06f24364de434c543d64d9f56bd0f620088", func := "loupe/loupelaw01.ClassShows", spec := "classShows", inPlace := ["internal/bytealg.IndexByteString"], named := ["loupe/class.escapes"], apart := false, laid := [("loupe/class.escapes", laid_loupe_class_escapes)], narrowed := true }
def ClassShowsUptoSaid : Prop := classShowsUptoRow.holds Tryd.pinned (OpenSpec.upto classShowsSpec)

/-- 'loupelaw01.ClassReads', WHERE WHAT IT READS IS OF BULK AT MOST 1048576: true; the input reads as it did. -/
def classReadsUptoRow : OpenClaim := { program := "ytkjnhjhkaaampaadoor", sum := "82275d8adc2f9ac88c486e2ce44eb06f24364de434c543d64d9f56bd0f620088", func := "loupe/loupelaw01.ClassReads", spec := "classReads", inPlace := ["internal/bytealg.IndexByteString"], unfollowed := true, recurses := true, named := ["loupe/class.escapes"], apart := false, laid := [("loupe/class.escapes", laid_loupe_class_escapes)], narrowed := true }
def ClassReadsUptoSaid : Prop := classReadsUptoRow.holds Tryd.pinned (OpenSpec.upto classReadsSpec)

/-- 'loupelaw01.ClassReadsBack', WHERE WHAT IT READS IS OF BULK AT MOST 1048576: true; the input reads as it did. -/
def classReadsBackUptoRow : OpenClaim := { program := "ytkjnhjhkaaampaadoor", sum := "82275d8adc2f9ac88c486e2ce44eb06f24364de434c543d64d9f56bd0f620088", func := "loupe/loupelaw01.ClassReadsBack", spec := "classReadsBack", inPlace := ["internal/bytealg.IndexByteString"], unfollowed := true, recurses := true, named := ["loupe/class.escapes"], apart := false, laid := [("loupe/class.escapes", laid_loupe_class_escapes)], narrowed := true }
def ClassReadsBackUptoSaid : Prop := classReadsBackUptoRow.holds Tryd.pinned (OpenSpec.upto classReadsBackSpec)

/-- 'loupelaw01.ClassOneText', WHERE WHAT IT READS IS OF BULK AT MOST 1048576: true; the input reads as it did. -/
def classOneTextUptoRow : OpenClaim := { program := "ytkjnhjhkaaampaadoor", sum := "82275d8adc2f9ac88c486e2ce44eb06f24364de434c543d64d9f56bd0f620088", func := "loupe/loupelaw01.ClassOneText", spec := "classOneText", inPlace := ["internal/bytealg.IndexByteString"], unfollowed := true, recurses := true, named := ["loupe/class.escapes"], apart := false, laid := [("loupe/class.escapes", laid_loupe_class_escapes)], narrowed := true }
def ClassOneTextUptoSaid : Prop := classOneTextUptoRow.holds Tryd.pinned (OpenSpec.upto classOneTextSpec)

end Rows
end Go.Proofs.YtkjnhjhkaaampaaDoor
