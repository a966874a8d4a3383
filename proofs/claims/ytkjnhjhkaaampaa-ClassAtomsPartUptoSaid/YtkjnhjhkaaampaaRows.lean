/-
  No cell of these rows narrows 'for every input' (looked for: loops, veiled, ifaces, maps, wideKeys, modest, calm, conditions, laid).
  DERIVED. THE GIVEN ROWS OF THIS SEAT. 6 by the template 'for every input the law returns true; each argument reads behind the call as it read before'; 0 by the template 'total and deterministic' (their statements: YtkjnhjhkaaampaaTotals.lean).
  GIVEN WITH THE SEED: the statements are not yours to turn. If you find one false, say at which input.
  Laid BY PROGRAM, IN A SANDBOX (cutbox-rows.mjs): the forced cells as the released guide's own fill.sh prints them over the translation a8d212e3fa81f7db… (all of the seat's roots in one cut). By AI agents, Wed Nov 11 2026. No macro, syntax, notation, axiom, sorry.
-/
import Derived.Test.YtkjnhjhkaaampaaChecked
import GoSem.Claim
import GoSem.ClaimJoined
import GoSem.ClaimMapViews
import Derived.JoinedTies
import Derived.KernelRfl
namespace Go.Proofs.Ytkjnhjhkaaampaa
/- THE CELL 'sum', in the pinned program and in every row, IS THE sha256 OF THE DUMP (.gsa) THAT YtkjnhjhkaaampaaProg.lean LOADS. Nothing in Lean hashes anything: it is a label: what it is worth is what the hold of that sum in a sandbox is worth. -/
noncomputable def Try.pinned : Pinned := { name := "ytkjnhjhkaaampaa", sum := "a8d212e3fa81f7db6ea61eb1132eca37132e62937d47776a1089a95d10a5de83", checked := Try.checked }
namespace Rows
def none {H : Type} : Left H := { results := [], args := [] }

/-- 'loupelaw01.ClassNexts': WHATEVER THE INPUT: true; the input reads as it did. -/
def classNextsSpec : ChangeSpec := { name := "classNexts", fn := fun _ => fun
  | [d1, d2] => { results := [.lit (.bool true)], args := [d1, d2] }
  | _ => none }
def classNextsRow : OpenClaim := { program := "ytkjnhjhkaaampaa", sum := "a8d212e3fa81f7db6ea61eb1132eca37132e62937d47776a1089a95d10a5de83", func := "loupe/loupelaw01.ClassNexts", spec := "classNexts", apart := false }
def ClassNextsSaid : Prop := classNextsRow.holds Try.pinned (OpenSpec.ofChange classNextsSpec)

/-- ITS FALSE NEIGHBOUR: 'it returns false'. Refute it at one input. -/
def classNextsWrong : ChangeSpec := { name := "classNexts", fn := fun _ => fun
  | [d1, d2] => { results := [.lit (.bool false)], args := [d1, d2] }
  | _ => none }
def ClassNextsWrongFalsely : Prop := classNextsRow.holds Try.pinned (OpenSpec.ofChange classNextsWrong)

/-- 'loupelaw01.ClassMakes': WHATEVER THE INPUT: true; the input reads as it did. -/
def classMakesSpec : ChangeSpec := { name := "classMakes", fn := fun _ => fun
  | [d1, d2, d3] => { results := [.lit (.bool true)], args := [d1, d2, d3] }
  | _ => none }
def classMakesRow : OpenClaim := { program := "ytkjnhjhkaaampaa", sum := "a8d212e3fa81f7db6ea61eb1132eca37132e62937d47776a1089a95d10a5de83", func := "loupe/loupelaw01.ClassMakes", spec := "classMakes", apart := false }
def ClassMakesSaid : Prop := classMakesRow.holds Try.pinned (OpenSpec.ofChange classMakesSpec)

/-- ITS FALSE NEIGHBOUR: 'it returns false'. Refute it at one input. -/
def classMakesWrong : ChangeSpec := { name := "classMakes", fn := fun _ => fun
  | [d1, d2, d3] => { results := [.lit (.bool false)], args := [d1, d2, d3] }
  | _ => none }
def ClassMakesWrongFalsely : Prop := classMakesRow.holds Try.pinned (OpenSpec.ofChange classMakesWrong)

/-- 'loupelaw01.ClassUnfolds': WHATEVER THE INPUT: true; the input reads as it did. -/
def classUnfoldsSpec : ChangeSpec := { name := "classUnfolds", fn := fun _ => fun
  | [d] => { results := [.lit (.bool true)], args := [d] }
  | _ => none }
def classUnfoldsRow : OpenClaim := { program := "ytkjnhjhkaaampaa", sum := "a8d212e3fa81f7db6ea61eb1132eca37132e62937d47776a1089a95d10a5de83", func := "loupe/loupelaw01.ClassUnfolds", spec := "classUnfolds", apart := false }
def ClassUnfoldsSaid : Prop := classUnfoldsRow.holds Try.pinned (OpenSpec.ofChange classUnfoldsSpec)

/-- ITS FALSE NEIGHBOUR: 'it returns false'. Refute it at one input. -/
def classUnfoldsWrong : ChangeSpec := { name := "classUnfolds", fn := fun _ => fun
  | [d] => { results := [.lit (.bool false)], args := [d] }
  | _ => none }
def ClassUnfoldsWrongFalsely : Prop := classUnfoldsRow.holds Try.pinned (OpenSpec.ofChange classUnfoldsWrong)

/-- 'loupelaw01.ClassAlgebra': WHATEVER THE INPUT: true; the input reads as it did. -/
def classAlgebraSpec : ChangeSpec := { name := "classAlgebra", fn := fun _ => fun
  | [d1, d2] => { results := [.lit (.bool true)], args := [d1, d2] }
  | _ => none }
def classAlgebraRow : OpenClaim := { program := "ytkjnhjhkaaampaa", sum := "a8d212e3fa81f7db6ea61eb1132eca37132e62937d47776a1089a95d10a5de83", func := "loupe/loupelaw01.ClassAlgebra", spec := "classAlgebra", apart := false }
def ClassAlgebraSaid : Prop := classAlgebraRow.holds Try.pinned (OpenSpec.ofChange classAlgebraSpec)

/-- ITS FALSE NEIGHBOUR: 'it returns false'. Refute it at one input. -/
def classAlgebraWrong : ChangeSpec := { name := "classAlgebra", fn := fun _ => fun
  | [d1, d2] => { results := [.lit (.bool false)], args := [d1, d2] }
  | _ => none }
def ClassAlgebraWrongFalsely : Prop := classAlgebraRow.holds Try.pinned (OpenSpec.ofChange classAlgebraWrong)

/-- 'loupelaw01.ClassAtoms': WHATEVER THE INPUT: true; the input reads as it did. -/
def classAtomsSpec : ChangeSpec := { name := "classAtoms", fn := fun _ => fun
  | [d1, d2] => { results := [.lit (.bool true)], args := [d1, d2] }
  | _ => none }
def classAtomsRow : OpenClaim := { program := "ytkjnhjhkaaampaa", sum := "a8d212e3fa81f7db6ea61eb1132eca37132e62937d47776a1089a95d10a5de83", func := "loupe/loupelaw01.ClassAtoms", spec := "classAtoms", apart := false }
def ClassAtomsSaid : Prop := classAtomsRow.holds Try.pinned (OpenSpec.ofChange classAtomsSpec)

/-- ITS FALSE NEIGHBOUR: 'it returns false'. Refute it at one input. -/
def classAtomsWrong : ChangeSpec := { name := "classAtoms", fn := fun _ => fun
  | [d1, d2] => { results := [.lit (.bool false)], args := [d1, d2] }
  | _ => none }
def ClassAtomsWrongFalsely : Prop := classAtomsRow.holds Try.pinned (OpenSpec.ofChange classAtomsWrong)

/-- 'loupelaw01.ClassAtomsPart': WHATEVER THE INPUT: true; the input reads as it did. -/
def classAtomsPartSpec : ChangeSpec := { name := "classAtomsPart", fn := fun _ => fun
  | [d] => { results := [.lit (.bool true)], args := [d] }
  | _ => none }
def classAtomsPartRow : OpenClaim := { program := "ytkjnhjhkaaampaa", sum := "a8d212e3fa81f7db6ea61eb1132eca37132e62937d47776a1089a95d10a5de83", func := "loupe/loupelaw01.ClassAtomsPart", spec := "classAtomsPart", apart := false }
def ClassAtomsPartSaid : Prop := classAtomsPartRow.holds Try.pinned (OpenSpec.ofChange classAtomsPartSpec)

/-- ITS FALSE NEIGHBOUR: 'it returns false'. Refute it at one input. -/
def classAtomsPartWrong : ChangeSpec := { name := "classAtomsPart", fn := fun _ => fun
  | [d] => { results := [.lit (.bool false)], args := [d] }
  | _ => none }
def ClassAtomsPartWrongFalsely : Prop := classAtomsPartRow.holds Try.pinned (OpenSpec.ofChange classAtomsPartWrong)

/- THE SECOND FORM. 'bulk': how many values and letters a reading holds, each counted each time it is reached (what is shared counts as often as it is met; a slice's spare places count too). A statement '..UptoSaid' is the law's where the arguments, and the package variables that the reading takes, are together of bulk at most 1048576: NARROWER than '..Said'. Prove '..Said' where nothing that the law and all that it calls make is longer than what came in: it says more and counts as full. Else prove '..UptoSaid'. A law counts once. -/
mutual
def uptoBulk {H : Type} : DataW H → Nat
  | .lit (.string bytes) => bytes.length + 1
  | .lit _ => 1
  | .nil => 1
  | .ptr d => uptoBulk d + 1
  | .slice elems spare => uptoBulkAll elems + uptoBulkAll spare + 1
  | .agg parts => uptoBulkAll parts + 1
  | .iface _ d => uptoBulk d + 1
  | .map entries => uptoBulkEntries entries + 1
  | .held _ => 1
def uptoBulkAll {H : Type} : List (DataW H) → Nat
  | [] => 0
  | d :: r => uptoBulk d + uptoBulkAll r
def uptoBulkEntries {H : Type} : List (Lit × DataW H) → Nat
  | [] => 0
  | x :: r => uptoBulkEntry x + uptoBulkEntries r
def uptoBulkEntry {H : Type} : Lit × DataW H → Nat
  | (.string bytes, d) => bytes.length + uptoBulk d + 1
  | (_, d) => uptoBulk d + 1
 end
def uptoSmall : (H : Type) → List (DataW H) → Bool := fun _ ds => decide (uptoBulkAll ds ≤ 1048576)
def OpenSpec.upto (s : _root_.Go.ChangeSpec) : _root_.Go.OpenSpec := { _root_.Go.OpenSpec.ofChange s with cond := some uptoSmall }

/-- 'loupelaw01.ClassNexts', WHERE WHAT IT READS IS OF BULK AT MOST 1048576: true; the input reads as it did. -/
def classNextsUptoRow : OpenClaim := { program := "ytkjnhjhkaaampaa", sum := "a8d212e3fa81f7db6ea61eb1132eca37132e62937d47776a1089a95d10a5de83", func := "loupe/loupelaw01.ClassNexts", spec := "classNexts", apart := false, narrowed := true }
def ClassNextsUptoSaid : Prop := classNextsUptoRow.holds Try.pinned (OpenSpec.upto classNextsSpec)

/-- 'loupelaw01.ClassMakes', WHERE WHAT IT READS IS OF BULK AT MOST 1048576: true; the input reads as it did. -/
def classMakesUptoRow : OpenClaim := { program := "ytkjnhjhkaaampaa", sum := "a8d212e3fa81f7db6ea61eb1132eca37132e62937d47776a1089a95d10a5de83", func := "loupe/loupelaw01.ClassMakes", spec := "classMakes", apart := false, narrowed := true }
def ClassMakesUptoSaid : Prop := classMakesUptoRow.holds Try.pinned (OpenSpec.upto classMakesSpec)

/-- 'loupelaw01.ClassUnfolds', WHERE WHAT IT READS IS OF BULK AT MOST 1048576: true; the input reads as it did. -/
def classUnfoldsUptoRow : OpenClaim := { program := "ytkjnhjhkaaampaa", sum := "a8d212e3fa81f7db6ea61eb1132eca37132e62937d47776a1089a95d10a5de83", func := "loupe/loupelaw01.ClassUnfolds", spec := "classUnfolds", apart := false, narrowed := true }
def ClassUnfoldsUptoSaid : Prop := classUnfoldsUptoRow.holds Try.pinned (OpenSpec.upto classUnfoldsSpec)

/-- 'loupelaw01.ClassAlgebra', WHERE WHAT IT READS IS OF BULK AT MOST 1048576: true; the input reads as it did. -/
def classAlgebraUptoRow : OpenClaim := { program := "ytkjnhjhkaaampaa", sum := "a8d212e3fa81f7db6ea61eb1132eca37132e62937d47776a1089a95d10a5de83", func := "loupe/loupelaw01.ClassAlgebra", spec := "classAlgebra", apart := false, narrowed := true }
def ClassAlgebraUptoSaid : Prop := classAlgebraUptoRow.holds Try.pinned (OpenSpec.upto classAlgebraSpec)

/-- 'loupelaw01.ClassAtoms', WHERE WHAT IT READS IS OF BULK AT MOST 1048576: true; the input reads as it did. -/
def classAtomsUptoRow : OpenClaim := { program := "ytkjnhjhkaaampaa", sum := "a8d212e3fa81f7db6ea61eb1132eca37132e62937d47776a1089a95d10a5de83", func := "loupe/loupelaw01.ClassAtoms", spec := "classAtoms", apart := false, narrowed := true }
def ClassAtomsUptoSaid : Prop := classAtomsUptoRow.holds Try.pinned (OpenSpec.upto classAtomsSpec)

/-- 'loupelaw01.ClassAtomsPart', WHERE WHAT IT READS IS OF BULK AT MOST 1048576: true; the input reads as it did. -/
def classAtomsPartUptoRow : OpenClaim := { program := "ytkjnhjhkaaampaa", sum := "a8d212e3fa81f7db6ea61eb1132eca37132e62937d47776a1089a95d10a5de83", func := "loupe/loupelaw01.ClassAtomsPart", spec := "classAtomsPart", apart := false, narrowed := true }
def ClassAtomsPartUptoSaid : Prop := classAtomsPartUptoRow.holds Try.pinned (OpenSpec.upto classAtomsPartSpec)

end Rows
end Go.Proofs.Ytkjnhjhkaaampaa
