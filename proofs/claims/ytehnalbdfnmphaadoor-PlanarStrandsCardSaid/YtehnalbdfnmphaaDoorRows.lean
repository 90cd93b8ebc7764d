/-
  NARROWER THAN 'FOR EVERY INPUT', by the rows' own cells (each row's printed sentence says how): PlanarFormats: laid · PlanarEncodes: laid · PlanarDecodes: laid · PlanarBinary: laid · PlanarParses: laid · PlanarStrands: laid · PlanarReturns: laid · PlanarRenames: laid.
  DERIVED. THE GIVEN ROWS OF THIS SEAT. 8 by the template 'for every input the law returns true; each argument reads behind the call as it read before'; 0 by the template 'total and deterministic' (their statements: YtehnalbdfnmphaaDoorTotals.lean).
  GIVEN WITH THE SEED: the statements are not yours to turn. If you find one false, say at which input.
  Laid BY PROGRAM, IN A SANDBOX (cutbox-rows.mjs): the forced cells as the released guide's own fill.sh prints them over the translation feec4299cc44b7f1… (all of the seat's roots in one cut). By AI agents, Wed Nov 11 2026. No macro, syntax, notation, axiom, sorry.
-/
import Derived.Test.YtehnalbdfnmphaaDoorChecked
import GoSem.PinnedTables
import GoSem.Claim
import GoSem.ClaimJoined
import GoSem.ClaimMapViews
import Derived.JoinedTies
import Derived.KernelRfl
namespace Go.Proofs.YtehnalbdfnmphaaDoor
/- THE CELL 'sum', in the pinned program and in every row, IS THE sha256 OF THE DUMP (.gsa) THAT YtehnalbdfnmphaaDoorProg.lean LOADS. Nothing in Lean hashes anything: it is a label: what it is worth is what the hold of that sum in a sandbox is worth. -/
noncomputable def Tryd.pinned : Pinned := { name := "ytehnalbdfnmphaadoor", sum := "feec4299cc44b7f1762448b93fef692a05bfec0084e4ff3476a83bf98678e080", checked := Tryd.checked }
namespace Rows
def none {H : Type} : Left H := { results := [], args := [] }

/- WHAT THE LISTED PACKAGE-LEVEL VARIABLES READ AS WHEN THE CALL BEGINS. Each datum BY PROGRAM (the guide's laid-datum.mjs) off the statement by which the dump's own 'gosem.cut.vars' lays the variable. In a bare row this is a premise. The card (YtehnalbdfnmphaaDoorCards.lean) ties it to the program's text. -/
def laid_math_bits_deBruijn32tab {H : Type} : DataW H := .agg [.lit (.int .u8 0), .lit (.int .u8 1), .lit (.int .u8 28), .lit (.int .u8 2), .lit (.int .u8 29), .lit (.int .u8 14), .lit (.int .u8 24), .lit (.int .u8 3), .lit (.int .u8 30), .lit (.int .u8 22), .lit (.int .u8 20), .lit (.int .u8 15), .lit (.int .u8 25), .lit (.int .u8 17), .lit (.int .u8 4), .lit (.int .u8 8), .lit (.int .u8 31), .lit (.int .u8 27), .lit (.int .u8 13), .lit (.int .u8 23), .lit (.int .u8 21), .lit (.int .u8 19), .lit (.int .u8 16), .lit (.int .u8 7), .lit (.int .u8 26), .lit (.int .u8 12), .lit (.int .u8 18), .lit (.int .u8 6), .lit (.int .u8 11), .lit (.int .u8 5), .lit (.int .u8 10), .lit (.int .u8 9)]
def laid_math_bits_deBruijn64tab {H : Type} : DataW H := .agg [.lit (.int .u8 0), .lit (.int .u8 1), .lit (.int .u8 56), .lit (.int .u8 2), .lit (.int .u8 57), .lit (.int .u8 49), .lit (.int .u8 28), .lit (.int .u8 3), .lit (.int .u8 61), .lit (.int .u8 58), .lit (.int .u8 42), .lit (.int .u8 50), .lit (.int .u8 38), .lit (.int .u8 29), .lit (.int .u8 17), .lit (.int .u8 4), .lit (.int .u8 62), .lit (.int .u8 47), .lit (.int .u8 59), .lit (.int .u8 36), .lit (.int .u8 45), .lit (.int .u8 43), .lit (.int .u8 51), .lit (.int .u8 22), .lit (.int .u8 53), .lit (.int .u8 39), .lit (.int .u8 33), .lit (.int .u8 30), .lit (.int .u8 24), .lit (.int .u8 18), .lit (.int .u8 12), .lit (.int .u8 5), .lit (.int .u8 63), .lit (.int .u8 55), .lit (.int .u8 48), .lit (.int .u8 27), .lit (.int .u8 60), .lit (.int .u8 41), .lit (.int .u8 37), .lit (.int .u8 16), .lit (.int .u8 46), .lit (.int .u8 35), .lit (.int .u8 44), .lit (.int .u8 21), .lit (.int .u8 52), .lit (.int .u8 32), .lit (.int .u8 23), .lit (.int .u8 11), .lit (.int .u8 54), .lit (.int .u8 26), .lit (.int .u8 40), .lit (.int .u8 15), .lit (.int .u8 34), .lit (.int .u8 20), .lit (.int .u8 31), .lit (.int .u8 10), .lit (.int .u8 25), .lit (.int .u8 14), .lit (.int .u8 19), .lit (.int .u8 9), .lit (.int .u8 13), .lit (.int .u8 8), .lit (.int .u8 7), .lit (.int .u8 6)]
def laid_internal_strconv_uint64pow10 {H : Type} : DataW H := .agg [.lit (.int .u64 1), .lit (.int .u64 10), .lit (.int .u64 100), .lit (.int .u64 1000), .lit (.int .u64 10000), .lit (.int .u64 100000), .lit (.int .u64 1000000), .lit (.int .u64 10000000), .lit (.int .u64 100000000), .lit (.int .u64 1000000000), .lit (.int .u64 10000000000), .lit (.int .u64 100000000000), .lit (.int .u64 1000000000000), .lit (.int .u64 10000000000000), .lit (.int .u64 100000000000000), .lit (.int .u64 1000000000000000), .lit (.int .u64 10000000000000000), .lit (.int .u64 100000000000000000), .lit (.int .u64 1000000000000000000), .lit (.int .u64 10000000000000000000)]
def laid_unicode_utf8_acceptRanges {H : Type} : DataW H := .agg [.agg [.lit (.int .u8 128), .lit (.int .u8 191)], .agg [.lit (.int .u8 160), .lit (.int .u8 191)], .agg [.lit (.int .u8 128), .lit (.int .u8 159)], .agg [.lit (.int .u8 144), .lit (.int .u8 191)], .agg [.lit (.int .u8 128), .lit (.int .u8 143)], .agg [.lit (.int .u8 0), .lit (.int .u8 0)], .agg [.lit (.int .u8 0), .lit (.int .u8 0)], .agg [.lit (.int .u8 0), .lit (.int .u8 0)], .agg [.lit (.int .u8 0), .lit (.int .u8 0)], .agg [.lit (.int .u8 0), .lit (.int .u8 0)], .agg [.lit (.int .u8 0), .lit (.int .u8 0)], .agg [.lit (.int .u8 0), .lit (.int .u8 0)], .agg [.lit (.int .u8 0), .lit (.int .u8 0)], .agg [.lit (.int .u8 0), .lit (.int .u8 0)], .agg [.lit (.int .u8 0), .lit (.int .u8 0)], .agg [.lit (.int .u8 0), .lit (.int .u8 0)]]
/-- One of Go's own tables, pinned by name: the form's constant. -/
def laid_unicode_utf8_first : DataW Unit := Go.Pinned.utf8First
def laid_strconv_ErrRange {H : Type} : DataW H := .iface "*errors.errorString" (.ptr (.agg [.lit (.string [118, 97, 108, 117, 101, 32, 111, 117, 116, 32, 111, 102, 32, 114, 97, 110, 103, 101])]))
def laid_strconv_ErrSyntax {H : Type} : DataW H := .iface "*errors.errorString" (.ptr (.agg [.lit (.string [105, 110, 118, 97, 108, 105, 100, 32, 115, 121, 110, 116, 97, 120])]))

/-- 'unravellaw03.PlanarFormats': WHATEVER THE INPUT: true; the input reads as it did. -/
def planarFormatsSpec : ChangeSpec := { name := "planarFormats", fn := fun _ => fun
  | [d] => { results := [.lit (.bool true)], args := [d] }
  | _ => none }
def planarFormatsRow : OpenClaim := { program := "ytehnalbdfnmphaadoor", sum := "feec4299cc44b7f1762448b93fef692a05bfec0084e4ff3476a83bf98678e080", func := "unravel/unravellaw03.PlanarFormats", spec := "planarFormats", inPlace := ["internal/abi.NoEscape"], unfollowed := true, recurses := true, named := ["internal/strconv.uint64pow10", "math/bits.deBruijn32tab", "math/bits.deBruijn64tab"], apart := false, laid := [("math/bits.deBruijn32tab", laid_math_bits_deBruijn32tab), ("math/bits.deBruijn64tab", laid_math_bits_deBruijn64tab), ("internal/strconv.uint64pow10", laid_internal_strconv_uint64pow10)] }
def PlanarFormatsSaid : Prop := planarFormatsRow.holds Tryd.pinned (OpenSpec.ofChange planarFormatsSpec)

/-- ITS FALSE NEIGHBOUR: 'it returns false'. Refute it at one input. -/
def planarFormatsWrong : ChangeSpec := { name := "planarFormats", fn := fun _ => fun
  | [d] => { results := [.lit (.bool false)], args := [d] }
  | _ => none }
def PlanarFormatsWrongFalsely : Prop := planarFormatsRow.holds Tryd.pinned (OpenSpec.ofChange planarFormatsWrong)

/-- 'unravellaw03.PlanarEncodes': WHATEVER THE INPUT: true; the input reads as it did. -/
def planarEncodesSpec : ChangeSpec := { name := "planarEncodes", fn := fun _ => fun
  | [d] => { results := [.lit (.bool true)], args := [d] }
  | _ => none }
def planarEncodesRow : OpenClaim := { program := "ytehnalbdfnmphaadoor", sum := "feec4299cc44b7f1762448b93fef692a05bfec0084e4ff3476a83bf98678e080", func := "unravel/unravellaw03.PlanarEncodes", spec := "planarEncodes", inPlace := ["internal/abi.NoEscape"], unfollowed := true, recurses := true, named := ["internal/strconv.uint64pow10", "math/bits.deBruijn32tab", "math/bits.deBruijn64tab"], apart := false, laid := [("math/bits.deBruijn32tab", laid_math_bits_deBruijn32tab), ("math/bits.deBruijn64tab", laid_math_bits_deBruijn64tab), ("internal/strconv.uint64pow10", laid_internal_strconv_uint64pow10)] }
def PlanarEncodesSaid : Prop := planarEncodesRow.holds Tryd.pinned (OpenSpec.ofChange planarEncodesSpec)

/-- ITS FALSE NEIGHBOUR: 'it returns false'. Refute it at one input. -/
def planarEncodesWrong : ChangeSpec := { name := "planarEncodes", fn := fun _ => fun
  | [d] => { results := [.lit (.bool false)], args := [d] }
  | _ => none }
def PlanarEncodesWrongFalsely : Prop := planarEncodesRow.holds Tryd.pinned (OpenSpec.ofChange planarEncodesWrong)

/-- 'unravellaw03.PlanarDecodes': WHATEVER THE INPUT: true; the input reads as it did. -/
def planarDecodesSpec : ChangeSpec := { name := "planarDecodes", fn := fun _ => fun
  | [d] => { results := [.lit (.bool true)], args := [d] }
  | _ => none }
def planarDecodesRow : OpenClaim := { program := "ytehnalbdfnmphaadoor", sum := "feec4299cc44b7f1762448b93fef692a05bfec0084e4ff3476a83bf98678e080", func := "unravel/unravellaw03.PlanarDecodes", spec := "planarDecodes", inPlace := ["internal/abi.NoEscape"], unfollowed := true, recurses := true, named := ["internal/strconv.uint64pow10", "math/bits.deBruijn32tab", "math/bits.deBruijn64tab"], apart := false, laid := [("math/bits.deBruijn32tab", laid_math_bits_deBruijn32tab), ("math/bits.deBruijn64tab", laid_math_bits_deBruijn64tab), ("internal/strconv.uint64pow10", laid_internal_strconv_uint64pow10)] }
def PlanarDecodesSaid : Prop := planarDecodesRow.holds Tryd.pinned (OpenSpec.ofChange planarDecodesSpec)

/-- ITS FALSE NEIGHBOUR: 'it returns false'. Refute it at one input. -/
def planarDecodesWrong : ChangeSpec := { name := "planarDecodes", fn := fun _ => fun
  | [d] => { results := [.lit (.bool false)], args := [d] }
  | _ => none }
def PlanarDecodesWrongFalsely : Prop := planarDecodesRow.holds Tryd.pinned (OpenSpec.ofChange planarDecodesWrong)

/-- 'unravellaw03.PlanarBinary': WHATEVER THE INPUT: true; the input reads as it did. -/
def planarBinarySpec : ChangeSpec := { name := "planarBinary", fn := fun _ => fun
  | [d1, d2, d3] => { results := [.lit (.bool true)], args := [d1, d2, d3] }
  | _ => none }
def planarBinaryRow : OpenClaim := { program := "ytehnalbdfnmphaadoor", sum := "feec4299cc44b7f1762448b93fef692a05bfec0084e4ff3476a83bf98678e080", func := "unravel/unravellaw03.PlanarBinary", spec := "planarBinary", inPlace := ["internal/abi.NoEscape"], unfollowed := true, recurses := true, named := ["internal/strconv.uint64pow10", "math/bits.deBruijn32tab", "math/bits.deBruijn64tab"], apart := false, laid := [("math/bits.deBruijn32tab", laid_math_bits_deBruijn32tab), ("math/bits.deBruijn64tab", laid_math_bits_deBruijn64tab), ("internal/strconv.uint64pow10", laid_internal_strconv_uint64pow10)] }
def PlanarBinarySaid : Prop := planarBinaryRow.holds Tryd.pinned (OpenSpec.ofChange planarBinarySpec)

/-- ITS FALSE NEIGHBOUR: 'it returns false'. Refute it at one input. -/
def planarBinaryWrong : ChangeSpec := { name := "planarBinary", fn := fun _ => fun
  | [d1, d2, d3] => { results := [.lit (.bool false)], args := [d1, d2, d3] }
  | _ => none }
def PlanarBinaryWrongFalsely : Prop := planarBinaryRow.holds Tryd.pinned (OpenSpec.ofChange planarBinaryWrong)

/-- 'unravellaw03.PlanarParses': WHATEVER THE INPUT: true; the input reads as it did. -/
def planarParsesSpec : ChangeSpec := { name := "planarParses", fn := fun _ => fun
  | [d] => { results := [.lit (.bool true)], args := [d] }
  | _ => none }
def planarParsesRow : OpenClaim := { program := "ytehnalbdfnmphaadoor", sum := "feec4299cc44b7f1762448b93fef692a05bfec0084e4ff3476a83bf98678e080", func := "unravel/unravellaw03.PlanarParses", spec := "planarParses", inPlace := ["internal/abi.NoEscape", "internal/bytealg.IndexByteString", "internal/bytealg.IndexString"], unfollowed := true, recurses := true, named := ["internal/strconv.uint64pow10", "math/bits.deBruijn32tab", "math/bits.deBruijn64tab", "internal/bytealg.MaxLen"], apart := false, laid := [("math/bits.deBruijn32tab", laid_math_bits_deBruijn32tab), ("math/bits.deBruijn64tab", laid_math_bits_deBruijn64tab), ("internal/strconv.uint64pow10", laid_internal_strconv_uint64pow10)] }
def PlanarParsesSaid : Prop := planarParsesRow.holds Tryd.pinned (OpenSpec.ofChange planarParsesSpec)

/-- ITS FALSE NEIGHBOUR: 'it returns false'. Refute it at one input. -/
def planarParsesWrong : ChangeSpec := { name := "planarParses", fn := fun _ => fun
  | [d] => { results := [.lit (.bool false)], args := [d] }
  | _ => none }
def PlanarParsesWrongFalsely : Prop := planarParsesRow.holds Tryd.pinned (OpenSpec.ofChange planarParsesWrong)

/-- 'unravellaw03.PlanarStrands': WHATEVER THE INPUT: true; the input reads as it did. -/
def planarStrandsSpec : ChangeSpec := { name := "planarStrands", fn := fun _ => fun
  | [d] => { results := [.lit (.bool true)], args := [d] }
  | _ => none }
def planarStrandsRow : OpenClaim := { program := "ytehnalbdfnmphaadoor", sum := "feec4299cc44b7f1762448b93fef692a05bfec0084e4ff3476a83bf98678e080", func := "unravel/unravellaw03.PlanarStrands", spec := "planarStrands", inPlace := ["internal/abi.NoEscape", "internal/bytealg.CountString", "internal/bytealg.IndexByteString", "internal/bytealg.IndexString"], unfollowed := true, recurses := true, named := ["internal/strconv.uint64pow10", "math/bits.deBruijn32tab", "math/bits.deBruijn64tab", "unicode/utf8.first", "unicode/utf8.acceptRanges", "internal/bytealg.MaxLen"], apart := false, laid := [("math/bits.deBruijn32tab", laid_math_bits_deBruijn32tab), ("math/bits.deBruijn64tab", laid_math_bits_deBruijn64tab), ("internal/strconv.uint64pow10", laid_internal_strconv_uint64pow10), ("unicode/utf8.acceptRanges", laid_unicode_utf8_acceptRanges), ("unicode/utf8.first", laid_unicode_utf8_first)] }
def PlanarStrandsSaid : Prop := planarStrandsRow.holds Tryd.pinned (OpenSpec.ofChange planarStrandsSpec)

/-- ITS FALSE NEIGHBOUR: 'it returns false'. Refute it at one input. -/
def planarStrandsWrong : ChangeSpec := { name := "planarStrands", fn := fun _ => fun
  | [d] => { results := [.lit (.bool false)], args := [d] }
  | _ => none }
def PlanarStrandsWrongFalsely : Prop := planarStrandsRow.holds Tryd.pinned (OpenSpec.ofChange planarStrandsWrong)

/-- 'unravellaw03.PlanarReturns': WHATEVER THE INPUT: true; the input reads as it did. -/
def planarReturnsSpec : ChangeSpec := { name := "planarReturns", fn := fun _ => fun
  | [d] => { results := [.lit (.bool true)], args := [d] }
  | _ => none }
def planarReturnsRow : OpenClaim := { program := "ytehnalbdfnmphaadoor", sum := "feec4299cc44b7f1762448b93fef692a05bfec0084e4ff3476a83bf98678e080", func := "unravel/unravellaw03.PlanarReturns", spec := "planarReturns", inPlace := ["internal/abi.NoEscape", "internal/bytealg.IndexByteString", "internal/bytealg.IndexString"], unfollowed := true, recurses := true, named := ["internal/strconv.uint64pow10", "math/bits.deBruijn32tab", "math/bits.deBruijn64tab", "internal/bytealg.MaxLen"], apart := false, laid := [("math/bits.deBruijn32tab", laid_math_bits_deBruijn32tab), ("math/bits.deBruijn64tab", laid_math_bits_deBruijn64tab), ("internal/strconv.uint64pow10", laid_internal_strconv_uint64pow10)] }
def PlanarReturnsSaid : Prop := planarReturnsRow.holds Tryd.pinned (OpenSpec.ofChange planarReturnsSpec)

/-- ITS FALSE NEIGHBOUR: 'it returns false'. Refute it at one input. -/
def planarReturnsWrong : ChangeSpec := { name := "planarReturns", fn := fun _ => fun
  | [d] => { results := [.lit (.bool false)], args := [d] }
  | _ => none }
def PlanarReturnsWrongFalsely : Prop := planarReturnsRow.holds Tryd.pinned (OpenSpec.ofChange planarReturnsWrong)

/-- 'unravellaw03.PlanarRenames': WHATEVER THE INPUT: true; the input reads as it did. -/
def planarRenamesSpec : ChangeSpec := { name := "planarRenames", fn := fun _ => fun
  | [d1, d2, d3] => { results := [.lit (.bool true)], args := [d1, d2, d3] }
  | _ => none }
def planarRenamesRow : OpenClaim := { program := "ytehnalbdfnmphaadoor", sum := "feec4299cc44b7f1762448b93fef692a05bfec0084e4ff3476a83bf98678e080", func := "unravel/unravellaw03.PlanarRenames", spec := "planarRenames", inPlace := ["internal/abi.NoEscape", "internal/bytealg.CountString", "internal/bytealg.IndexByteString", "internal/bytealg.IndexString", "internal/bytealg.MakeNoZero"], unfollowed := true, recurses := true, named := ["internal/strconv.uint64pow10", "math/bits.deBruijn32tab", "math/bits.deBruijn64tab", "unicode/utf8.first", "unicode/utf8.acceptRanges", "internal/bytealg.MaxLen", "strconv.ErrSyntax", "strconv.ErrRange"], apart := false, laid := [("math/bits.deBruijn32tab", laid_math_bits_deBruijn32tab), ("math/bits.deBruijn64tab", laid_math_bits_deBruijn64tab), ("internal/strconv.uint64pow10", laid_internal_strconv_uint64pow10), ("unicode/utf8.acceptRanges", laid_unicode_utf8_acceptRanges), ("strconv.ErrRange", laid_strconv_ErrRange), ("strconv.ErrSyntax", laid_strconv_ErrSyntax), ("unicode/utf8.first", laid_unicode_utf8_first)] }
def PlanarRenamesSaid : Prop := planarRenamesRow.holds Tryd.pinned (OpenSpec.ofChange planarRenamesSpec)

/-- ITS FALSE NEIGHBOUR: 'it returns false'. Refute it at one input. -/
def planarRenamesWrong : ChangeSpec := { name := "planarRenames", fn := fun _ => fun
  | [d1, d2, d3] => { results := [.lit (.bool false)], args := [d1, d2, d3] }
  | _ => none }
def PlanarRenamesWrongFalsely : Prop := planarRenamesRow.holds Tryd.pinned (OpenSpec.ofChange planarRenamesWrong)

/- THE SECOND FORM. 'bulk': how many values and letters a reading holds, each counted each time it is reached (what is shared counts as often as it is met; a slice's spare places count too). A statement '..UptoSaid' is the law's where the arguments, and the package variables that the reading takes, are together of bulk at most 1048576: NARROWER than '..Said'. Prove '..Said' where nothing that the law and all that it calls make is longer than what came in: it says more and counts as full. Else prove '..UptoSaid'. A law counts once. -/
mutual
def uptoBulk {H : Type} : DataW H → Nat
  | .lit (.string bytes) => bytes.length + 1
  | .lit _ => 1
  | .nil => 1
  | .ptr d => uptoBulk d + 1
  | .slice elems spare => uptoBulkAll elems + uptoBulkAll spare + 1
  | .agg parts => uptoBulkAll parts + 1
  | .iface _ d => uptoBulk d + 1
  | .map entries => uptoBulkEntries entries + 1
  | .held _ => 1
def uptoBulkAll {H : Type} : List (DataW H) → Nat
  | [] => 0
  | d :: r => uptoBulk d + uptoBulkAll r
def uptoBulkEntries {H : Type} : List (Lit × DataW H) → Nat
  | [] => 0
  | x :: r => uptoBulkEntry x + uptoBulkEntries r
def uptoBulkEntry {H : Type} : Lit × DataW H → Nat
  | (.string bytes, d) => bytes.length + uptoBulk d + 1
  | (_, d) => uptoBulk d + 1
 end
def uptoSmall : (H : Type) → List (DataW H) → Bool := fun _ ds => decide (uptoBulkAll ds ≤ 1048576)
def OpenSpec.upto (s : _root_.Go.ChangeSpec) : _root_.Go.OpenSpec := { _root_.Go.OpenSpec.ofChange s with cond := some uptoSmall }

/-- 'unravellaw03.PlanarFormats', WHERE WHAT IT READS IS OF BULK AT MOST 1048576: true; the input reads as it did. -/
def planarFormatsUptoRow : OpenClaim := { program := "ytehnalbdfnmphaadoor", sum := "feec4299cc44b7f1762448b93fef692a05bfec0084e4ff3476a83bf98678e080", func := "unravel/unravellaw03.PlanarFormats", spec := "planarFormats", inPlace := ["internal/abi.NoEscape"], unfollowed := true, recurses := true, named := ["internal/strconv.uint64pow10", "math/bits.deBruijn32tab", "math/bits.deBruijn64tab"], apart := false, laid := [("math/bits.deBruijn32tab", laid_math_bits_deBruijn32tab), ("math/bits.deBruijn64tab", laid_math_bits_deBruijn64tab), ("internal/strconv.uint64pow10", laid_internal_strconv_uint64pow10)], narrowed := true }
def PlanarFormatsUptoSaid : Prop := planarFormatsUptoRow.holds Tryd.pinned (OpenSpec.upto planarFormatsSpec)

/-- 'unravellaw03.PlanarEncodes', WHERE WHAT IT READS IS OF BULK AT MOST 1048576: true; the input reads as it did. -/
def planarEncodesUptoRow : OpenClaim := { program := "ytehnalbdfnmphaadoor", sum := "feec4299cc44b7f1762448b93fef692a05bfec0084e4ff3476a83bf98678e080", func := "unravel/unravellaw03.PlanarEncodes", spec := "planarEncodes", inPlace := ["internal/abi.NoEscape"], unfollowed := true, recurses := true, named := ["internal/strconv.uint64pow10", "math/bits.deBruijn32tab", "math/bits.deBruijn64tab"], apart := false, laid := [("math/bits.deBruijn32tab", laid_math_bits_deBruijn32tab), ("math/bits.deBruijn64tab", laid_math_bits_deBruijn64tab), ("internal/strconv.uint64pow10", laid_internal_strconv_uint64pow10)], narrowed := true }
def PlanarEncodesUptoSaid : Prop := planarEncodesUptoRow.holds Tryd.pinned (OpenSpec.upto planarEncodesSpec)

/-- 'unravellaw03.PlanarDecodes', WHERE WHAT IT READS IS OF BULK AT MOST 1048576: true; the input reads as it did. -/
def planarDecodesUptoRow : OpenClaim := { program := "ytehnalbdfnmphaadoor", sum := "feec4299cc44b7f1762448b93fef692a05bfec0084e4ff3476a83bf98678e080", func := "unravel/unravellaw03.PlanarDecodes", spec := "planarDecodes", inPlace := ["internal/abi.NoEscape"], unfollowed := true, recurses := true, named := ["internal/strconv.uint64pow10", "math/bits.deBruijn32tab", "math/bits.deBruijn64tab"], apart := false, laid := [("math/bits.deBruijn32tab", laid_math_bits_deBruijn32tab), ("math/bits.deBruijn64tab", laid_math_bits_deBruijn64tab), ("internal/strconv.uint64pow10", laid_internal_strconv_uint64pow10)], narrowed := true }
def PlanarDecodesUptoSaid : Prop := planarDecodesUptoRow.holds Tryd.pinned (OpenSpec.upto planarDecodesSpec)

/-- 'unravellaw03.PlanarBinary', WHERE WHAT IT READS IS OF BULK AT MOST 1048576: true; the input reads as it did. -/
def planarBinaryUptoRow : OpenClaim := { program := "ytehnalbdfnmphaadoor", sum := "feec4299cc44b7f1762448b93fef692a05bfec0084e4ff3476a83bf98678e080", func := "unravel/unravellaw03.PlanarBinary", spec := "planarBinary", inPlace := ["internal/abi.NoEscape"], unfollowed := true, recurses := true, named := ["internal/strconv.uint64pow10", "math/bits.deBruijn32tab", "math/bits.deBruijn64tab"], apart := false, laid := [("math/bits.deBruijn32tab", laid_math_bits_deBruijn32tab), ("math/bits.deBruijn64tab", laid_math_bits_deBruijn64tab), ("internal/strconv.uint64pow10", laid_internal_strconv_uint64pow10)], narrowed := true }
def PlanarBinaryUptoSaid : Prop := planarBinaryUptoRow.holds Tryd.pinned (OpenSpec.upto planarBinarySpec)

/-- 'unravellaw03.PlanarParses', WHERE WHAT IT READS IS OF BULK AT MOST 1048576: true; the input reads as it did. -/
def planarParsesUptoRow : OpenClaim := { program := "ytehnalbdfnmphaadoor", sum := "feec4299cc44b7f1762448b93fef692a05bfec0084e4ff3476a83bf98678e080", func := "unravel/unravellaw03.PlanarParses", spec := "planarParses", inPlace := ["internal/abi.NoEscape", "internal/bytealg.IndexByteString", "internal/bytealg.IndexString"], unfollowed := true, recurses := true, named := ["internal/strconv.uint64pow10", "math/bits.deBruijn32tab", "math/bits.deBruijn64tab", "internal/bytealg.MaxLen"], apart := false, laid := [("math/bits.deBruijn32tab", laid_math_bits_deBruijn32tab), ("math/bits.deBruijn64tab", laid_math_bits_deBruijn64tab), ("internal/strconv.uint64pow10", laid_internal_strconv_uint64pow10)], narrowed := true }
def PlanarParsesUptoSaid : Prop := planarParsesUptoRow.holds Tryd.pinned (OpenSpec.upto planarParsesSpec)

/-- 'unravellaw03.PlanarStrands', WHERE WHAT IT READS IS OF BULK AT MOST 1048576: true; the input reads as it did. -/
def planarStrandsUptoRow : OpenClaim := { program := "ytehnalbdfnmphaadoor", sum := "feec4299cc44b7f1762448b93fef692a05bfec0084e4ff3476a83bf98678e080", func := "unravel/unravellaw03.PlanarStrands", spec := "planarStrands", inPlace := ["internal/abi.NoEscape", "internal/bytealg.CountString", "internal/bytealg.IndexByteString", "internal/bytealg.IndexString"], unfollowed := true, recurses := true, named := ["internal/strconv.uint64pow10", "math/bits.deBruijn32tab", "math/bits.deBruijn64tab", "unicode/utf8.first", "unicode/utf8.acceptRanges", "internal/bytealg.MaxLen"], apart := false, laid := [("math/bits.deBruijn32tab", laid_math_bits_deBruijn32tab), ("math/bits.deBruijn64tab", laid_math_bits_deBruijn64tab), ("internal/strconv.uint64pow10", laid_internal_strconv_uint64pow10), ("unicode/utf8.acceptRanges", laid_unicode_utf8_acceptRanges), ("unicode/utf8.first", laid_unicode_utf8_first)], narrowed := true }
def PlanarStrandsUptoSaid : Prop := planarStrandsUptoRow.holds Tryd.pinned (OpenSpec.upto planarStrandsSpec)

/-- 'unravellaw03.PlanarReturns', WHERE WHAT IT READS IS OF BULK AT MOST 1048576: true; the input reads as it did. -/
def planarReturnsUptoRow : OpenClaim := { program := "ytehnalbdfnmphaadoor", sum := "feec4299cc44b7f1762448b93fef692a05bfec0084e4ff3476a83bf98678e080", func := "unravel/unravellaw03.PlanarReturns", spec := "planarReturns", inPlace := ["internal/abi.NoEscape", "internal/bytealg.IndexByteString", "internal/bytealg.IndexString"], unfollowed := true, recurses := true, named := ["internal/strconv.uint64pow10", "math/bits.deBruijn32tab", "math/bits.deBruijn64tab", "internal/bytealg.MaxLen"], apart := false, laid := [("math/bits.deBruijn32tab", laid_math_bits_deBruijn32tab), ("math/bits.deBruijn64tab", laid_math_bits_deBruijn64tab), ("internal/strconv.uint64pow10", laid_internal_strconv_uint64pow10)], narrowed := true }
def PlanarReturnsUptoSaid : Prop := planarReturnsUptoRow.holds Tryd.pinned (OpenSpec.upto planarReturnsSpec)

/-- 'unravellaw03.PlanarRenames', WHERE WHAT IT READS IS OF BULK AT MOST 1048576: true; the input reads as it did. -/
def planarRenamesUptoRow : OpenClaim := { program := "ytehnalbdfnmphaadoor", sum := "feec4299cc44b7f1762448b93fef692a05bfec0084e4ff3476a83bf98678e080", func := "unravel/unravellaw03.PlanarRenames", spec := "planarRenames", inPlace := ["internal/abi.NoEscape", "internal/bytealg.CountString", "internal/bytealg.IndexByteString", "internal/bytealg.IndexString", "internal/bytealg.MakeNoZero"], unfollowed := true, recurses := true, named := ["internal/strconv.uint64pow10", "math/bits.deBruijn32tab", "math/bits.deBruijn64tab", "unicode/utf8.first", "unicode/utf8.acceptRanges", "internal/bytealg.MaxLen", "strconv.ErrSyntax", "strconv.ErrRange"], apart := false, laid := [("math/bits.deBruijn32tab", laid_math_bits_deBruijn32tab), ("math/bits.deBruijn64tab", laid_math_bits_deBruijn64tab), ("internal/strconv.uint64pow10", laid_internal_strconv_uint64pow10), ("unicode/utf8.acceptRanges", laid_unicode_utf8_acceptRanges), ("strconv.ErrRange", laid_strconv_ErrRange), ("strconv.ErrSyntax", laid_strconv_ErrSyntax), ("unicode/utf8.first", laid_unicode_utf8_first)], narrowed := true }
def PlanarRenamesUptoSaid : Prop := planarRenamesUptoRow.holds Tryd.pinned (OpenSpec.upto planarRenamesSpec)

end Rows
end Go.Proofs.YtehnalbdfnmphaaDoor
