/-
  NARROWER THAN 'FOR EVERY INPUT', by the rows' own cells (each row's printed sentence says how): PlaceOfs: laid · PlaceQuotes: laid · PlaceNames: laid · PlaceSays: laid · PlaceOffsets: laid · PlaceThereAndBack: laid.
  DERIVED. THE GIVEN ROWS OF THIS SEAT. 6 by the template 'for every input the law returns true; each argument reads behind the call as it read before'; 0 by the template 'total and deterministic' (their statements: YtiaafdjdppganaaDoorTotals.lean).
  GIVEN WITH THE SEED: the statements are not yours to turn. If you find one false, say at which input.
  Laid BY PROGRAM, IN A SANDBOX (cutbox-rows.mjs): the forced cells as the released guide's own fill.sh prints them over the translation 83bbfb4a03324c61… (all of the seat's roots in one cut). By AI agents, Wed Nov 11 2026. No macro, syntax, notation, axiom, sorry.
-/
import Derived.Test.YtiaafdjdppganaaDoorChecked
import GoSem.Claim
import GoSem.ClaimJoined
import GoSem.ClaimMapViews
import Derived.JoinedTies
import Derived.KernelRfl
namespace Go.Proofs.YtiaafdjdppganaaDoor
/- THE CELL 'sum', in the pinned program and in every row, IS THE sha256 OF THE DUMP (.gsa) THAT YtiaafdjdppganaaDoorProg.lean LOADS. Nothing in Lean hashes anything: it is a label: what it is worth is what the hold of that sum in a sandbox is worth. -/
noncomputable def Tryd.pinned : Pinned := { name := "ytiaafdjdppganaadoor", sum := "83bbfb4a03324c6107e14386aa3114c79a5b3d32b4600f5e09a2a03b2e7be332", checked := Tryd.checked }
namespace Rows
def none {H : Type} : Left H := { results := [], args := [] }

/- WHAT THE LISTED PACKAGE-LEVEL VARIABLES READ AS WHEN THE CALL BEGINS. Each datum BY PROGRAM (the guide's laid-datum.mjs) off the statement by which the dump's own 'gosem.cut.vars' lays the variable. In a bare row this is a premise. The card (YtiaafdjdppganaaDoorCards.lean) ties it to the program's text. -/
def laid_math_bits_deBruijn32tab {H : Type} : DataW H := .agg [.lit (.int .u8 0), .lit (.int .u8 1), .lit (.int .u8 28), .lit (.int .u8 2), .lit (.int .u8 29), .lit (.int .u8 14), .lit (.int .u8 24), .lit (.int .u8 3), .lit (.int .u8 30), .lit (.int .u8 22), .lit (.int .u8 20), .lit (.int .u8 15), .lit (.int .u8 25), .lit (.int .u8 17), .lit (.int .u8 4), .lit (.int .u8 8), .lit (.int .u8 31), .lit (.int .u8 27), .lit (.int .u8 13), .lit (.int .u8 23), .lit (.int .u8 21), .lit (.int .u8 19), .lit (.int .u8 16), .lit (.int .u8 7), .lit (.int .u8 26), .lit (.int .u8 12), .lit (.int .u8 18), .lit (.int .u8 6), .lit (.int .u8 11), .lit (.int .u8 5), .lit (.int .u8 10), .lit (.int .u8 9)]
def laid_math_bits_deBruijn64tab {H : Type} : DataW H := .agg [.lit (.int .u8 0), .lit (.int .u8 1), .lit (.int .u8 56), .lit (.int .u8 2), .lit (.int .u8 57), .lit (.int .u8 49), .lit (.int .u8 28), .lit (.int .u8 3), .lit (.int .u8 61), .lit (.int .u8 58), .lit (.int .u8 42), .lit (.int .u8 50), .lit (.int .u8 38), .lit (.int .u8 29), .lit (.int .u8 17), .lit (.int .u8 4), .lit (.int .u8 62), .lit (.int .u8 47), .lit (.int .u8 59), .lit (.int .u8 36), .lit (.int .u8 45), .lit (.int .u8 43), .lit (.int .u8 51), .lit (.int .u8 22), .lit (.int .u8 53), .lit (.int .u8 39), .lit (.int .u8 33), .lit (.int .u8 30), .lit (.int .u8 24), .lit (.int .u8 18), .lit (.int .u8 12), .lit (.int .u8 5), .lit (.int .u8 63), .lit (.int .u8 55), .lit (.int .u8 48), .lit (.int .u8 27), .lit (.int .u8 60), .lit (.int .u8 41), .lit (.int .u8 37), .lit (.int .u8 16), .lit (.int .u8 46), .lit (.int .u8 35), .lit (.int .u8 44), .lit (.int .u8 21), .lit (.int .u8 52), .lit (.int .u8 32), .lit (.int .u8 23), .lit (.int .u8 11), .lit (.int .u8 54), .lit (.int .u8 26), .lit (.int .u8 40), .lit (.int .u8 15), .lit (.int .u8 34), .lit (.int .u8 20), .lit (.int .u8 31), .lit (.int .u8 10), .lit (.int .u8 25), .lit (.int .u8 14), .lit (.int .u8 19), .lit (.int .u8 9), .lit (.int .u8 13), .lit (.int .u8 8), .lit (.int .u8 7), .lit (.int .u8 6)]
def laid_internal_strconv_uint64pow10 {H : Type} : DataW H := .agg [.lit (.int .u64 1), .lit (.int .u64 10), .lit (.int .u64 100), .lit (.int .u64 1000), .lit (.int .u64 10000), .lit (.int .u64 100000), .lit (.int .u64 1000000), .lit (.int .u64 10000000), .lit (.int .u64 100000000), .lit (.int .u64 1000000000), .lit (.int .u64 10000000000), .lit (.int .u64 100000000000), .lit (.int .u64 1000000000000), .lit (.int .u64 10000000000000), .lit (.int .u64 100000000000000), .lit (.int .u64 1000000000000000), .lit (.int .u64 10000000000000000), .lit (.int .u64 100000000000000000), .lit (.int .u64 1000000000000000000), .lit (.int .u64 10000000000000000000)]

/-- 'loupelaw11.PlaceOfs': WHATEVER THE INPUT: true; the input reads as it did. -/
def placeOfsSpec : ChangeSpec := { name := "placeOfs", fn := fun _ => fun
  | [d1, d2] => { results := [.lit (.bool true)], args := [d1, d2] }
  | _ => none }
def placeOfsRow : OpenClaim := { program := "ytiaafdjdppganaadoor", sum := "83bbfb4a03324c6107e14386aa3114c79a5b3d32b4600f5e09a2a03b2e7be332", func := "loupe/loupelaw11.PlaceOfs", spec := "placeOfs", inPlace := ["internal/bytealg.CountString", "internal/bytealg.IndexByteString", "internal/bytealg.IndexString"], named := ["internal/bytealg.MaxLen", "internal/strconv.uint64pow10", "math/bits.deBruijn32tab", "math/bits.deBruijn64tab"], apart := false, laid := [("math/bits.deBruijn32tab", laid_math_bits_deBruijn32tab), ("math/bits.deBruijn64tab", laid_math_bits_deBruijn64tab), ("internal/strconv.uint64pow10", laid_internal_strconv_uint64pow10)] }
def PlaceOfsSaid : Prop := placeOfsRow.holds Tryd.pinned (OpenSpec.ofChange placeOfsSpec)

/-- ITS FALSE NEIGHBOUR: 'it returns false'. Refute it at one input. -/
def placeOfsWrong : ChangeSpec := { name := "placeOfs", fn := fun _ => fun
  | [d1, d2] => { results := [.lit (.bool false)], args := [d1, d2] }
  | _ => none }
def PlaceOfsWrongFalsely : Prop := placeOfsRow.holds Tryd.pinned (OpenSpec.ofChange placeOfsWrong)

/-- 'loupelaw11.PlaceQuotes': WHATEVER THE INPUT: true; the input reads as it did. -/
def placeQuotesSpec : ChangeSpec := { name := "placeQuotes", fn := fun _ => fun
  | [d1, d2] => { results := [.lit (.bool true)], args := [d1, d2] }
  | _ => none }
def placeQuotesRow : OpenClaim := { program := "ytiaafdjdppganaadoor", sum := "83bbfb4a03324c6107e14386aa3114c79a5b3d32b4600f5e09a2a03b2e7be332", func := "loupe/loupelaw11.PlaceQuotes", spec := "placeQuotes", inPlace := ["internal/bytealg.CountString", "internal/bytealg.IndexByteString", "internal/bytealg.IndexString"], named := ["internal/bytealg.MaxLen", "internal/strconv.uint64pow10", "math/bits.deBruijn32tab", "math/bits.deBruijn64tab"], apart := false, laid := [("math/bits.deBruijn32tab", laid_math_bits_deBruijn32tab), ("math/bits.deBruijn64tab", laid_math_bits_deBruijn64tab), ("internal/strconv.uint64pow10", laid_internal_strconv_uint64pow10)] }
def PlaceQuotesSaid : Prop := placeQuotesRow.holds Tryd.pinned (OpenSpec.ofChange placeQuotesSpec)

/-- ITS FALSE NEIGHBOUR: 'it returns false'. Refute it at one input. -/
def placeQuotesWrong : ChangeSpec := { name := "placeQuotes", fn := fun _ => fun
  | [d1, d2] => { results := [.lit (.bool false)], args := [d1, d2] }
  | _ => none }
def PlaceQuotesWrongFalsely : Prop := placeQuotesRow.holds Tryd.pinned (OpenSpec.ofChange placeQuotesWrong)

/-- 'loupelaw11.PlaceNames': WHATEVER THE INPUT: true; the input reads as it did. -/
def placeNamesSpec : ChangeSpec := { name := "placeNames", fn := fun _ => fun
  | [d] => { results := [.lit (.bool true)], args := [d] }
  | _ => none }
def placeNamesRow : OpenClaim := { program := "ytiaafdjdppganaadoor", sum := "83bbfb4a03324c6107e14386aa3114c79a5b3d32b4600f5e09a2a03b2e7be332", func := "loupe/loupelaw11.PlaceNames", spec := "placeNames", inPlace := ["internal/bytealg.CountString", "internal/bytealg.IndexByteString", "internal/bytealg.IndexString"], named := ["internal/bytealg.MaxLen", "internal/strconv.uint64pow10", "math/bits.deBruijn32tab", "math/bits.deBruijn64tab"], apart := false, laid := [("math/bits.deBruijn32tab", laid_math_bits_deBruijn32tab), ("math/bits.deBruijn64tab", laid_math_bits_deBruijn64tab), ("internal/strconv.uint64pow10", laid_internal_strconv_uint64pow10)] }
def PlaceNamesSaid : Prop := placeNamesRow.holds Tryd.pinned (OpenSpec.ofChange placeNamesSpec)

/-- ITS FALSE NEIGHBOUR: 'it returns false'. Refute it at one input. -/
def placeNamesWrong : ChangeSpec := { name := "placeNames", fn := fun _ => fun
  | [d] => { results := [.lit (.bool false)], args := [d] }
  | _ => none }
def PlaceNamesWrongFalsely : Prop := placeNamesRow.holds Tryd.pinned (OpenSpec.ofChange placeNamesWrong)

/-- 'loupelaw11.PlaceSays': WHATEVER THE INPUT: true; the input reads as it did. -/
def placeSaysSpec : ChangeSpec := { name := "placeSays", fn := fun _ => fun
  | [d1, d2, d3] => { results := [.lit (.bool true)], args := [d1, d2, d3] }
  | _ => none }
def placeSaysRow : OpenClaim := { program := "ytiaafdjdppganaadoor", sum := "83bbfb4a03324c6107e14386aa3114c79a5b3d32b4600f5e09a2a03b2e7be332", func := "loupe/loupelaw11.PlaceSays", spec := "placeSays", inPlace := ["internal/bytealg.CountString", "internal/bytealg.IndexByteString", "internal/bytealg.IndexString"], named := ["internal/bytealg.MaxLen", "internal/strconv.uint64pow10", "math/bits.deBruijn32tab", "math/bits.deBruijn64tab"], apart := false, laid := [("math/bits.deBruijn32tab", laid_math_bits_deBruijn32tab), ("math/bits.deBruijn64tab", laid_math_bits_deBruijn64tab), ("internal/strconv.uint64pow10", laid_internal_strconv_uint64pow10)] }
def PlaceSaysSaid : Prop := placeSaysRow.holds Tryd.pinned (OpenSpec.ofChange placeSaysSpec)

/-- ITS FALSE NEIGHBOUR: 'it returns false'. Refute it at one input. -/
def placeSaysWrong : ChangeSpec := { name := "placeSays", fn := fun _ => fun
  | [d1, d2, d3] => { results := [.lit (.bool false)], args := [d1, d2, d3] }
  | _ => none }
def PlaceSaysWrongFalsely : Prop := placeSaysRow.holds Tryd.pinned (OpenSpec.ofChange placeSaysWrong)

/-- 'loupelaw11.PlaceOffsets': WHATEVER THE INPUT: true; the input reads as it did. -/
def placeOffsetsSpec : ChangeSpec := { name := "placeOffsets", fn := fun _ => fun
  | [d1, d2, d3] => { results := [.lit (.bool true)], args := [d1, d2, d3] }
  | _ => none }
def placeOffsetsRow : OpenClaim := { program := "ytiaafdjdppganaadoor", sum := "83bbfb4a03324c6107e14386aa3114c79a5b3d32b4600f5e09a2a03b2e7be332", func := "loupe/loupelaw11.PlaceOffsets", spec := "placeOffsets", inPlace := ["internal/bytealg.IndexByteString", "internal/bytealg.CountString", "internal/bytealg.IndexString"], named := ["internal/bytealg.MaxLen", "internal/strconv.uint64pow10", "math/bits.deBruijn32tab", "math/bits.deBruijn64tab"], apart := false, laid := [("math/bits.deBruijn32tab", laid_math_bits_deBruijn32tab), ("math/bits.deBruijn64tab", laid_math_bits_deBruijn64tab), ("internal/strconv.uint64pow10", laid_internal_strconv_uint64pow10)] }
def PlaceOffsetsSaid : Prop := placeOffsetsRow.holds Tryd.pinned (OpenSpec.ofChange placeOffsetsSpec)

/-- ITS FALSE NEIGHBOUR: 'it returns false'. Refute it at one input. -/
def placeOffsetsWrong : ChangeSpec := { name := "placeOffsets", fn := fun _ => fun
  | [d1, d2, d3] => { results := [.lit (.bool false)], args := [d1, d2, d3] }
  | _ => none }
def PlaceOffsetsWrongFalsely : Prop := placeOffsetsRow.holds Tryd.pinned (OpenSpec.ofChange placeOffsetsWrong)

/-- 'loupelaw11.PlaceThereAndBack': WHATEVER THE INPUT: true; the input reads as it did. -/
def placeThereAndBackSpec : ChangeSpec := { name := "placeThereAndBack", fn := fun _ => fun
  | [d1, d2, d3] => { results := [.lit (.bool true)], args := [d1, d2, d3] }
  | _ => none }
def placeThereAndBackRow : OpenClaim := { program := "ytiaafdjdppganaadoor", sum := "83bbfb4a03324c6107e14386aa3114c79a5b3d32b4600f5e09a2a03b2e7be332", func := "loupe/loupelaw11.PlaceThereAndBack", spec := "placeThereAndBack", inPlace := ["internal/bytealg.CountString", "internal/bytealg.IndexByteString", "internal/bytealg.IndexString"], named := ["internal/bytealg.MaxLen", "internal/strconv.uint64pow10", "math/bits.deBruijn32tab", "math/bits.deBruijn64tab"], apart := false, laid := [("math/bits.deBruijn32tab", laid_math_bits_deBruijn32tab), ("math/bits.deBruijn64tab", laid_math_bits_deBruijn64tab), ("internal/strconv.uint64pow10", laid_internal_strconv_uint64pow10)] }
def PlaceThereAndBackSaid : Prop := placeThereAndBackRow.holds Tryd.pinned (OpenSpec.ofChange placeThereAndBackSpec)

/-- ITS FALSE NEIGHBOUR: 'it returns false'. Refute it at one input. -/
def placeThereAndBackWrong : ChangeSpec := { name := "placeThereAndBack", fn := fun _ => fun
  | [d1, d2, d3] => { results := [.lit (.bool false)], args := [d1, d2, d3] }
  | _ => none }
def PlaceThereAndBackWrongFalsely : Prop := placeThereAndBackRow.holds Tryd.pinned (OpenSpec.ofChange placeThereAndBackWrong)

/- THE SECOND FORM. 'bulk': how many values and letters a reading holds, each counted each time it is reached (what is shared counts as often as it is met; a slice's spare places count too). A statement '..UptoSaid' is the law's where the arguments, and the package variables that the reading takes, are together of bulk at most 1048576: NARROWER than '..Said'. Prove '..Said' where nothing that the law and all that it calls make is longer than what came in: it says more and counts as full. Else prove '..UptoSaid'. A law counts once. -/
mutual
def uptoBulk {H : Type} : DataW H → Nat
  | .lit (.string bytes) => bytes.length + 1
  | .lit _ => 1
  | .nil => 1
  | .ptr d => uptoBulk d + 1
  | .slice elems spare => uptoBulkAll elems + uptoBulkAll spare + 1
  | .agg parts => uptoBulkAll parts + 1
  | .iface _ d => uptoBulk d + 1
  | .map entries => uptoBulkEntries entries + 1
  | .held _ => 1
def uptoBulkAll {H : Type} : List (DataW H) → Nat
  | [] => 0
  | d :: r => uptoBulk d + uptoBulkAll r
def uptoBulkEntries {H : Type} : List (Lit × DataW H) → Nat
  | [] => 0
  | x :: r => uptoBulkEntry x + uptoBulkEntries r
def uptoBulkEntry {H : Type} : Lit × DataW H → Nat
  | (.string bytes, d) => bytes.length + uptoBulk d + 1
  | (_, d) => uptoBulk d + 1
 end
def uptoSmall : (H : Type) → List (DataW H) → Bool := fun _ ds => decide (uptoBulkAll ds ≤ 1048576)
def OpenSpec.upto (s : _root_.Go.ChangeSpec) : _root_.Go.OpenSpec := { _root_.Go.OpenSpec.ofChange s with cond := some uptoSmall }

/-- 'loupelaw11.PlaceOfs', WHERE WHAT IT READS IS OF BULK AT MOST 1048576: true; the input reads as it did. -/
def placeOfsUptoRow : OpenClaim := { program := "ytiaafdjdppganaadoor", sum := "83bbfb4a03324c6107e14386aa3114c79a5b3d32b4600f5e09a2a03b2e7be332", func := "loupe/loupelaw11.PlaceOfs", spec := "placeOfs", inPlace := ["internal/bytealg.CountString", "internal/bytealg.IndexByteString", "internal/bytealg.IndexString"], named := ["internal/bytealg.MaxLen", "internal/strconv.uint64pow10", "math/bits.deBruijn32tab", "math/bits.deBruijn64tab"], apart := false, laid := [("math/bits.deBruijn32tab", laid_math_bits_deBruijn32tab), ("math/bits.deBruijn64tab", laid_math_bits_deBruijn64tab), ("internal/strconv.uint64pow10", laid_internal_strconv_uint64pow10)], narrowed := true }
def PlaceOfsUptoSaid : Prop := placeOfsUptoRow.holds Tryd.pinned (OpenSpec.upto placeOfsSpec)

/-- 'loupelaw11.PlaceQuotes', WHERE WHAT IT READS IS OF BULK AT MOST 1048576: true; the input reads as it did. -/
def placeQuotesUptoRow : OpenClaim := { program := "ytiaafdjdppganaadoor", sum := "83bbfb4a03324c6107e14386aa3114c79a5b3d32b4600f5e09a2a03b2e7be332", func := "loupe/loupelaw11.PlaceQuotes", spec := "placeQuotes", inPlace := ["internal/bytealg.CountString", "internal/bytealg.IndexByteString", "internal/bytealg.IndexString"], named := ["internal/bytealg.MaxLen", "internal/strconv.uint64pow10", "math/bits.deBruijn32tab", "math/bits.deBruijn64tab"], apart := false, laid := [("math/bits.deBruijn32tab", laid_math_bits_deBruijn32tab), ("math/bits.deBruijn64tab", laid_math_bits_deBruijn64tab), ("internal/strconv.uint64pow10", laid_internal_strconv_uint64pow10)], narrowed := true }
def PlaceQuotesUptoSaid : Prop := placeQuotesUptoRow.holds Tryd.pinned (OpenSpec.upto placeQuotesSpec)

/-- 'loupelaw11.PlaceNames', WHERE WHAT IT READS IS OF BULK AT MOST 1048576: true; the input reads as it did. -/
def placeNamesUptoRow : OpenClaim := { program := "ytiaafdjdppganaadoor", sum := "83bbfb4a03324c6107e14386aa3114c79a5b3d32b4600f5e09a2a03b2e7be332", func := "loupe/loupelaw11.PlaceNames", spec := "placeNames", inPlace := ["internal/bytealg.CountString", "internal/bytealg.IndexByteString", "internal/bytealg.IndexString"], named := ["internal/bytealg.MaxLen", "internal/strconv.uint64pow10", "math/bits.deBruijn32tab", "math/bits.deBruijn64tab"], apart := false, laid := [("math/bits.deBruijn32tab", laid_math_bits_deBruijn32tab), ("math/bits.deBruijn64tab", laid_math_bits_deBruijn64tab), ("internal/strconv.uint64pow10", laid_internal_strconv_uint64pow10)], narrowed := true }
def PlaceNamesUptoSaid : Prop := placeNamesUptoRow.holds Tryd.pinned (OpenSpec.upto placeNamesSpec)

/-- 'loupelaw11.PlaceSays', WHERE WHAT IT READS IS OF BULK AT MOST 1048576: true; the input reads as it did. -/
def placeSaysUptoRow : OpenClaim := { program := "ytiaafdjdppganaadoor", sum := "83bbfb4a03324c6107e14386aa3114c79a5b3d32b4600f5e09a2a03b2e7be332", func := "loupe/loupelaw11.PlaceSays", spec := "placeSays", inPlace := ["internal/bytealg.CountString", "internal/bytealg.IndexByteString", "internal/bytealg.IndexString"], named := ["internal/bytealg.MaxLen", "internal/strconv.uint64pow10", "math/bits.deBruijn32tab", "math/bits.deBruijn64tab"], apart := false, laid := [("math/bits.deBruijn32tab", laid_math_bits_deBruijn32tab), ("math/bits.deBruijn64tab", laid_math_bits_deBruijn64tab), ("internal/strconv.uint64pow10", laid_internal_strconv_uint64pow10)], narrowed := true }
def PlaceSaysUptoSaid : Prop := placeSaysUptoRow.holds Tryd.pinned (OpenSpec.upto placeSaysSpec)

/-- 'loupelaw11.PlaceOffsets', WHERE WHAT IT READS IS OF BULK AT MOST 1048576: true; the input reads as it did. -/
def placeOffsetsUptoRow : OpenClaim := { program := "ytiaafdjdppganaadoor", sum := "83bbfb4a03324c6107e14386aa3114c79a5b3d32b4600f5e09a2a03b2e7be332", func := "loupe/loupelaw11.PlaceOffsets", spec := "placeOffsets", inPlace := ["internal/bytealg.IndexByteString", "internal/bytealg.CountString", "internal/bytealg.IndexString"], named := ["internal/bytealg.MaxLen", "internal/strconv.uint64pow10", "math/bits.deBruijn32tab", "math/bits.deBruijn64tab"], apart := false, laid := [("math/bits.deBruijn32tab", laid_math_bits_deBruijn32tab), ("math/bits.deBruijn64tab", laid_math_bits_deBruijn64tab), ("internal/strconv.uint64pow10", laid_internal_strconv_uint64pow10)], narrowed := true }
def PlaceOffsetsUptoSaid : Prop := placeOffsetsUptoRow.holds Tryd.pinned (OpenSpec.upto placeOffsetsSpec)

/-- 'loupelaw11.PlaceThereAndBack', WHERE WHAT IT READS IS OF BULK AT MOST 1048576: true; the input reads as it did. -/
def placeThereAndBackUptoRow : OpenClaim := { program := "ytiaafdjdppganaadoor", sum := "83bbfb4a03324c6107e14386aa3114c79a5b3d32b4600f5e09a2a03b2e7be332", func := "loupe/loupelaw11.PlaceThereAndBack", spec := "placeThereAndBack", inPlace := ["internal/bytealg.CountString", "internal/bytealg.IndexByteString", "internal/bytealg.IndexString"], named := ["internal/bytealg.MaxLen", "internal/strconv.uint64pow10", "math/bits.deBruijn32tab", "math/bits.deBruijn64tab"], apart := false, laid := [("math/bits.deBruijn32tab", laid_math_bits_deBruijn32tab), ("math/bits.deBruijn64tab", laid_math_bits_deBruijn64tab), ("internal/strconv.uint64pow10", laid_internal_strconv_uint64pow10)], narrowed := true }
def PlaceThereAndBackUptoSaid : Prop := placeThereAndBackUptoRow.holds Tryd.pinned (OpenSpec.upto placeThereAndBackSpec)

end Rows
end Go.Proofs.YtiaafdjdppganaaDoor
