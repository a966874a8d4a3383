/-
  No cell of these rows narrows 'for every input' (looked for: loops, veiled, ifaces, maps, wideKeys, modest, calm, conditions, laid).
  DERIVED. THE GIVEN ROWS OF THIS SEAT. 6 by the template 'for every input the law returns true; each argument reads behind the call as it read before'; 0 by the template 'total and deterministic' (their statements: YtiaafdjdppganaaTotals.lean).
  GIVEN WITH THE SEED: the statements are not yours to turn. If you find one false, say at which input.
  Laid BY PROGRAM, IN A SANDBOX (cutbox-rows.mjs): the forced cells as the released guide's own fill.sh prints them over the translation c9eecd8cbae8c5f5… (all of the seat's roots in one cut). By AI agents, Wed Nov 11 2026. No macro, syntax, notation, axiom, sorry.
-/
import Derived.Test.YtiaafdjdppganaaChecked
import GoSem.Claim
import GoSem.ClaimJoined
import GoSem.ClaimMapViews
import Derived.JoinedTies
import Derived.KernelRfl
namespace Go.Proofs.Ytiaafdjdppganaa
/- THE CELL 'sum', in the pinned program and in every row, IS THE sha256 OF THE DUMP (.gsa) THAT YtiaafdjdppganaaProg.lean LOADS. Nothing in Lean hashes anything: it is a label: what it is worth is what the hold of that sum in a sandbox is worth. -/
noncomputable def Try.pinned : Pinned := { name := "ytiaafdjdppganaa", sum := "c9eecd8cbae8c5f58bce6c46717dde9b7f8d897d3719fc8ca3312b0787b554c2", checked := Try.checked }
namespace Rows
def none {H : Type} : Left H := { results := [], args := [] }

/-- 'loupelaw12.TokenScans': WHATEVER THE INPUT: true; the input reads as it did. -/
def tokenScansSpec : ChangeSpec := { name := "tokenScans", fn := fun _ => fun
  | [d] => { results := [.lit (.bool true)], args := [d] }
  | _ => none }
def tokenScansRow : OpenClaim := { program := "ytiaafdjdppganaa", sum := "c9eecd8cbae8c5f58bce6c46717dde9b7f8d897d3719fc8ca3312b0787b554c2", func := "loupe/loupelaw12.TokenScans", spec := "tokenScans", inPlace := ["internal/bytealg.IndexByteString"], apart := false }
def TokenScansSaid : Prop := tokenScansRow.holds Try.pinned (OpenSpec.ofChange tokenScansSpec)

/-- ITS FALSE NEIGHBOUR: 'it returns false'. Refute it at one input. -/
def tokenScansWrong : ChangeSpec := { name := "tokenScans", fn := fun _ => fun
  | [d] => { results := [.lit (.bool false)], args := [d] }
  | _ => none }
def TokenScansWrongFalsely : Prop := tokenScansRow.holds Try.pinned (OpenSpec.ofChange tokenScansWrong)

/-- 'loupelaw12.TokenJoined': WHATEVER THE INPUT: true; the input reads as it did. -/
def tokenJoinedSpec : ChangeSpec := { name := "tokenJoined", fn := fun _ => fun
  | [d1, d2] => { results := [.lit (.bool true)], args := [d1, d2] }
  | _ => none }
def tokenJoinedRow : OpenClaim := { program := "ytiaafdjdppganaa", sum := "c9eecd8cbae8c5f58bce6c46717dde9b7f8d897d3719fc8ca3312b0787b554c2", func := "loupe/loupelaw12.TokenJoined", spec := "tokenJoined", inPlace := ["internal/bytealg.IndexByteString"], apart := false }
def TokenJoinedSaid : Prop := tokenJoinedRow.holds Try.pinned (OpenSpec.ofChange tokenJoinedSpec)

/-- ITS FALSE NEIGHBOUR: 'it returns false'. Refute it at one input. -/
def tokenJoinedWrong : ChangeSpec := { name := "tokenJoined", fn := fun _ => fun
  | [d1, d2] => { results := [.lit (.bool false)], args := [d1, d2] }
  | _ => none }
def TokenJoinedWrongFalsely : Prop := tokenJoinedRow.holds Try.pinned (OpenSpec.ofChange tokenJoinedWrong)

/-- 'loupelaw12.TokenPlaces': WHATEVER THE INPUT: true; the input reads as it did. -/
def tokenPlacesSpec : ChangeSpec := { name := "tokenPlaces", fn := fun _ => fun
  | [d] => { results := [.lit (.bool true)], args := [d] }
  | _ => none }
def tokenPlacesRow : OpenClaim := { program := "ytiaafdjdppganaa", sum := "c9eecd8cbae8c5f58bce6c46717dde9b7f8d897d3719fc8ca3312b0787b554c2", func := "loupe/loupelaw12.TokenPlaces", spec := "tokenPlaces", inPlace := ["internal/bytealg.IndexByteString"], apart := false }
def TokenPlacesSaid : Prop := tokenPlacesRow.holds Try.pinned (OpenSpec.ofChange tokenPlacesSpec)

/-- ITS FALSE NEIGHBOUR: 'it returns false'. Refute it at one input. -/
def tokenPlacesWrong : ChangeSpec := { name := "tokenPlaces", fn := fun _ => fun
  | [d] => { results := [.lit (.bool false)], args := [d] }
  | _ => none }
def TokenPlacesWrongFalsely : Prop := tokenPlacesRow.holds Try.pinned (OpenSpec.ofChange tokenPlacesWrong)

/-- 'loupelaw12.TokenQuoted': WHATEVER THE INPUT: true; the input reads as it did. -/
def tokenQuotedSpec : ChangeSpec := { name := "tokenQuoted", fn := fun _ => fun
  | [d] => { results := [.lit (.bool true)], args := [d] }
  | _ => none }
def tokenQuotedRow : OpenClaim := { program := "ytiaafdjdppganaa", sum := "c9eecd8cbae8c5f58bce6c46717dde9b7f8d897d3719fc8ca3312b0787b554c2", func := "loupe/loupelaw12.TokenQuoted", spec := "tokenQuoted", inPlace := ["internal/bytealg.IndexByteString"], apart := false }
def TokenQuotedSaid : Prop := tokenQuotedRow.holds Try.pinned (OpenSpec.ofChange tokenQuotedSpec)

/-- ITS FALSE NEIGHBOUR: 'it returns false'. Refute it at one input. -/
def tokenQuotedWrong : ChangeSpec := { name := "tokenQuoted", fn := fun _ => fun
  | [d] => { results := [.lit (.bool false)], args := [d] }
  | _ => none }
def TokenQuotedWrongFalsely : Prop := tokenQuotedRow.holds Try.pinned (OpenSpec.ofChange tokenQuotedWrong)

/-- 'loupelaw12.TokenShows': WHATEVER THE INPUT: true; the input reads as it did. -/
def tokenShowsSpec : ChangeSpec := { name := "tokenShows", fn := fun _ => fun
  | [d] => { results := [.lit (.bool true)], args := [d] }
  | _ => none }
def tokenShowsRow : OpenClaim := { program := "ytiaafdjdppganaa", sum := "c9eecd8cbae8c5f58bce6c46717dde9b7f8d897d3719fc8ca3312b0787b554c2", func := "loupe/loupelaw12.TokenShows", spec := "tokenShows", inPlace := ["internal/bytealg.IndexByteString", "internal/abi.NoEscape"], apart := false }
def TokenShowsSaid : Prop := tokenShowsRow.holds Try.pinned (OpenSpec.ofChange tokenShowsSpec)

/-- ITS FALSE NEIGHBOUR: 'it returns false'. Refute it at one input. -/
def tokenShowsWrong : ChangeSpec := { name := "tokenShows", fn := fun _ => fun
  | [d] => { results := [.lit (.bool false)], args := [d] }
  | _ => none }
def TokenShowsWrongFalsely : Prop := tokenShowsRow.holds Try.pinned (OpenSpec.ofChange tokenShowsWrong)

/-- 'loupelaw12.TokenThereAndBack': WHATEVER THE INPUT: true; the input reads as it did. -/
def tokenThereAndBackSpec : ChangeSpec := { name := "tokenThereAndBack", fn := fun _ => fun
  | [d] => { results := [.lit (.bool true)], args := [d] }
  | _ => none }
def tokenThereAndBackRow : OpenClaim := { program := "ytiaafdjdppganaa", sum := "c9eecd8cbae8c5f58bce6c46717dde9b7f8d897d3719fc8ca3312b0787b554c2", func := "loupe/loupelaw12.TokenThereAndBack", spec := "tokenThereAndBack", inPlace := ["internal/bytealg.IndexByteString", "internal/abi.NoEscape"], apart := false }
def TokenThereAndBackSaid : Prop := tokenThereAndBackRow.holds Try.pinned (OpenSpec.ofChange tokenThereAndBackSpec)

/-- ITS FALSE NEIGHBOUR: 'it returns false'. Refute it at one input. -/
def tokenThereAndBackWrong : ChangeSpec := { name := "tokenThereAndBack", fn := fun _ => fun
  | [d] => { results := [.lit (.bool false)], args := [d] }
  | _ => none }
def TokenThereAndBackWrongFalsely : Prop := tokenThereAndBackRow.holds Try.pinned (OpenSpec.ofChange tokenThereAndBackWrong)

/- THE SECOND FORM. 'bulk': how many values and letters a reading holds, each counted each time it is reached (what is shared counts as often as it is met; a slice's spare places count too). A statement '..UptoSaid' is the law's where the arguments, and the package variables that the reading takes, are together of bulk at most 1048576: NARROWER than '..Said'. Prove '..Said' where nothing that the law and all that it calls make is longer than what came in: it says more and counts as full. Else prove '..UptoSaid'. A law counts once. -/
mutual
def uptoBulk {H : Type} : DataW H → Nat
  | .lit (.string bytes) => bytes.length + 1
  | .lit _ => 1
  | .nil => 1
  | .ptr d => uptoBulk d + 1
  | .slice elems spare => uptoBulkAll elems + uptoBulkAll spare + 1
  | .agg parts => uptoBulkAll parts + 1
  | .iface _ d => uptoBulk d + 1
  | .map entries => uptoBulkEntries entries + 1
  | .held _ => 1
def uptoBulkAll {H : Type} : List (DataW H) → Nat
  | [] => 0
  | d :: r => uptoBulk d + uptoBulkAll r
def uptoBulkEntries {H : Type} : List (Lit × DataW H) → Nat
  | [] => 0
  | x :: r => uptoBulkEntry x + uptoBulkEntries r
def uptoBulkEntry {H : Type} : Lit × DataW H → Nat
  | (.string bytes, d) => bytes.length + uptoBulk d + 1
  | (_, d) => uptoBulk d + 1
 end
def uptoSmall : (H : Type) → List (DataW H) → Bool := fun _ ds => decide (uptoBulkAll ds ≤ 1048576)
def OpenSpec.upto (s : _root_.Go.ChangeSpec) : _root_.Go.OpenSpec := { _root_.Go.OpenSpec.ofChange s with cond := some uptoSmall }

/-- 'loupelaw12.TokenScans', WHERE WHAT IT READS IS OF BULK AT MOST 1048576: true; the input reads as it did. -/
def tokenScansUptoRow : OpenClaim := { program := "ytiaafdjdppganaa", sum := "c9eecd8cbae8c5f58bce6c46717dde9b7f8d897d3719fc8ca3312b0787b554c2", func := "loupe/loupelaw12.TokenScans", spec := "tokenScans", inPlace := ["internal/bytealg.IndexByteString"], apart := false, narrowed := true }
def TokenScansUptoSaid : Prop := tokenScansUptoRow.holds Try.pinned (OpenSpec.upto tokenScansSpec)

/-- 'loupelaw12.TokenJoined', WHERE WHAT IT READS IS OF BULK AT MOST 1048576: true; the input reads as it did. -/
def tokenJoinedUptoRow : OpenClaim := { program := "ytiaafdjdppganaa", sum := "c9eecd8cbae8c5f58bce6c46717dde9b7f8d897d3719fc8ca3312b0787b554c2", func := "loupe/loupelaw12.TokenJoined", spec := "tokenJoined", inPlace := ["internal/bytealg.IndexByteString"], apart := false, narrowed := true }
def TokenJoinedUptoSaid : Prop := tokenJoinedUptoRow.holds Try.pinned (OpenSpec.upto tokenJoinedSpec)

/-- 'loupelaw12.TokenPlaces', WHERE WHAT IT READS IS OF BULK AT MOST 1048576: true; the input reads as it did. -/
def tokenPlacesUptoRow : OpenClaim := { program := "ytiaafdjdppganaa", sum := "c9eecd8cbae8c5f58bce6c46717dde9b7f8d897d3719fc8ca3312b0787b554c2", func := "loupe/loupelaw12.TokenPlaces", spec := "tokenPlaces", inPlace := ["internal/bytealg.IndexByteString"], apart := false, narrowed := true }
def TokenPlacesUptoSaid : Prop := tokenPlacesUptoRow.holds Try.pinned (OpenSpec.upto tokenPlacesSpec)

/-- 'loupelaw12.TokenQuoted', WHERE WHAT IT READS IS OF BULK AT MOST 1048576: true; the input reads as it did. -/
def tokenQuotedUptoRow : OpenClaim := { program := "ytiaafdjdppganaa", sum := "c9eecd8cbae8c5f58bce6c46717dde9b7f8d897d3719fc8ca3312b0787b554c2", func := "loupe/loupelaw12.TokenQuoted", spec := "tokenQuoted", inPlace := ["internal/bytealg.IndexByteString"], apart := false, narrowed := true }
def TokenQuotedUptoSaid : Prop := tokenQuotedUptoRow.holds Try.pinned (OpenSpec.upto tokenQuotedSpec)

/-- 'loupelaw12.TokenShows', WHERE WHAT IT READS IS OF BULK AT MOST 1048576: true; the input reads as it did. -/
def tokenShowsUptoRow : OpenClaim := { program := "ytiaafdjdppganaa", sum := "c9eecd8cbae8c5f58bce6c46717dde9b7f8d897d3719fc8ca3312b0787b554c2", func := "loupe/loupelaw12.TokenShows", spec := "tokenShows", inPlace := ["internal/bytealg.IndexByteString", "internal/abi.NoEscape"], apart := false, narrowed := true }
def TokenShowsUptoSaid : Prop := tokenShowsUptoRow.holds Try.pinned (OpenSpec.upto tokenShowsSpec)

/-- 'loupelaw12.TokenThereAndBack', WHERE WHAT IT READS IS OF BULK AT MOST 1048576: true; the input reads as it did. -/
def tokenThereAndBackUptoRow : OpenClaim := { program := "ytiaafdjdppganaa", sum := "c9eecd8cbae8c5f58bce6c46717dde9b7f8d897d3719fc8ca3312b0787b554c2", func := "loupe/loupelaw12.TokenThereAndBack", spec := "tokenThereAndBack", inPlace := ["internal/bytealg.IndexByteString", "internal/abi.NoEscape"], apart := false, narrowed := true }
def TokenThereAndBackUptoSaid : Prop := tokenThereAndBackUptoRow.holds Try.pinned (OpenSpec.upto tokenThereAndBackSpec)

end Rows
end Go.Proofs.Ytiaafdjdppganaa
