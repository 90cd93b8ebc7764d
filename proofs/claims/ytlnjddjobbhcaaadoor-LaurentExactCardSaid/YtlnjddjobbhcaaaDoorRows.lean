/-
  NARROWER THAN 'FOR EVERY INPUT', by the rows' own cells (each row's printed sentence says how): LaurentDivides: laid · LaurentExact: laid · LaurentRing: laid · LaurentScales: laid · LaurentOf: laid · LaurentValue: laid · LaurentAt: laid.
  DERIVED. THE GIVEN ROWS OF THIS SEAT. 7 by the template 'for every input the law returns true; each argument reads behind the call as it read before'; 0 by the template 'total and deterministic' (their statements: YtlnjddjobbhcaaaDoorTotals.lean).
  GIVEN WITH THE SEED: the statements are not yours to turn. If you find one false, say at which input.
  Laid BY PROGRAM, IN A SANDBOX (cutbox-rows.mjs): the forced cells as the released guide's own fill.sh prints them over the translation 83166a0f32336bbd… (all of the seat's roots in one cut). By AI agents, Wed Nov 11 2026. No macro, syntax, notation, axiom, sorry.
-/
import Derived.Test.YtlnjddjobbhcaaaDoorChecked
import GoSem.Claim
import GoSem.ClaimJoined
import GoSem.ClaimMapViews
import Derived.JoinedTies
import Derived.KernelRfl
namespace Go.Proofs.YtlnjddjobbhcaaaDoor
/- THE CELL 'sum', in the pinned program and in every row, IS THE sha256 OF THE DUMP (.gsa) THAT YtlnjddjobbhcaaaDoorProg.lean LOADS. Nothing in Lean hashes anything: it is a label: what it is worth is what the hold of that sum in a sandbox is worth. -/
noncomputable def Tryd.pinned : Pinned := { name := "ytlnjddjobbhcaaadoor", sum := "83166a0f32336bbd151812497bb8449e4e7be07975997f3c5574dcb46675e1f6", checked := Tryd.checked }
namespace Rows
def none {H : Type} : Left H := { results := [], args := [] }

/- WHAT THE LISTED PACKAGE-LEVEL VARIABLES READ AS WHEN THE CALL BEGINS. Each datum BY PROGRAM (the guide's laid-datum.mjs) off the statement by which the dump's own 'gosem.cut.vars' lays the variable. In a bare row this is a premise. The card (YtlnjddjobbhcaaaDoorCards.lean) ties it to the program's text. -/
def laid_math_bits_deBruijn32tab {H : Type} : DataW H := .agg [.lit (.int .u8 0), .lit (.int .u8 1), .lit (.int .u8 28), .lit (.int .u8 2), .lit (.int .u8 29), .lit (.int .u8 14), .lit (.int .u8 24), .lit (.int .u8 3), .lit (.int .u8 30), .lit (.int .u8 22), .lit (.int .u8 20), .lit (.int .u8 15), .lit (.int .u8 25), .lit (.int .u8 17), .lit (.int .u8 4), .lit (.int .u8 8), .lit (.int .u8 31), .lit (.int .u8 27), .lit (.int .u8 13), .lit (.int .u8 23), .lit (.int .u8 21), .lit (.int .u8 19), .lit (.int .u8 16), .lit (.int .u8 7), .lit (.int .u8 26), .lit (.int .u8 12), .lit (.int .u8 18), .lit (.int .u8 6), .lit (.int .u8 11), .lit (.int .u8 5), .lit (.int .u8 10), .lit (.int .u8 9)]
def laid_math_bits_deBruijn64tab {H : Type} : DataW H := .agg [.lit (.int .u8 0), .lit (.int .u8 1), .lit (.int .u8 56), .lit (.int .u8 2), .lit (.int .u8 57), .lit (.int .u8 49), .lit (.int .u8 28), .lit (.int .u8 3), .lit (.int .u8 61), .lit (.int .u8 58), .lit (.int .u8 42), .lit (.int .u8 50), .lit (.int .u8 38), .lit (.int .u8 29), .lit (.int .u8 17), .lit (.int .u8 4), .lit (.int .u8 62), .lit (.int .u8 47), .lit (.int .u8 59), .lit (.int .u8 36), .lit (.int .u8 45), .lit (.int .u8 43), .lit (.int .u8 51), .lit (.int .u8 22), .lit (.int .u8 53), .lit (.int .u8 39), .lit (.int .u8 33), .lit (.int .u8 30), .lit (.int .u8 24), .lit (.int .u8 18), .lit (.int .u8 12), .lit (.int .u8 5), .lit (.int .u8 63), .lit (.int .u8 55), .lit (.int .u8 48), .lit (.int .u8 27), .lit (.int .u8 60), .lit (.int .u8 41), .lit (.int .u8 37), .lit (.int .u8 16), .lit (.int .u8 46), .lit (.int .u8 35), .lit (.int .u8 44), .lit (.int .u8 21), .lit (.int .u8 52), .lit (.int .u8 32), .lit (.int .u8 23), .lit (.int .u8 11), .lit (.int .u8 54), .lit (.int .u8 26), .lit (.int .u8 40), .lit (.int .u8 15), .lit (.int .u8 34), .lit (.int .u8 20), .lit (.int .u8 31), .lit (.int .u8 10), .lit (.int .u8 25), .lit (.int .u8 14), .lit (.int .u8 19), .lit (.int .u8 9), .lit (.int .u8 13), .lit (.int .u8 8), .lit (.int .u8 7), .lit (.int .u8 6)]
def laid_internal_strconv_uint64pow10 {H : Type} : DataW H := .agg [.lit (.int .u64 1), .lit (.int .u64 10), .lit (.int .u64 100), .lit (.int .u64 1000), .lit (.int .u64 10000), .lit (.int .u64 100000), .lit (.int .u64 1000000), .lit (.int .u64 10000000), .lit (.int .u64 100000000), .lit (.int .u64 1000000000), .lit (.int .u64 10000000000), .lit (.int .u64 100000000000), .lit (.int .u64 1000000000000), .lit (.int .u64 10000000000000), .lit (.int .u64 100000000000000), .lit (.int .u64 1000000000000000), .lit (.int .u64 10000000000000000), .lit (.int .u64 100000000000000000), .lit (.int .u64 1000000000000000000), .lit (.int .u64 10000000000000000000)]

/-- 'unravellaw12.LaurentDivides': WHATEVER THE INPUT: true; the input reads as it did. -/
def laurentDividesSpec : ChangeSpec := { name := "laurentDivides", fn := fun _ => fun
  | [d1, d2, d3, d4] => { results := [.lit (.bool true)], args := [d1, d2, d3, d4] }
  | _ => none }
def laurentDividesRow : OpenClaim := { program := "ytlnjddjobbhcaaadoor", sum := "83166a0f32336bbd151812497bb8449e4e7be07975997f3c5574dcb46675e1f6", func := "unravel/unravellaw12.LaurentDivides", spec := "laurentDivides", inPlace := ["math/bits.Add64", "math/bits.Sub64", "internal/abi.NoEscape"], unfollowed := true, recurses := true, named := ["math/bits.divideError", "math/bits.overflowError", "internal/strconv.uint64pow10", "math/bits.deBruijn32tab", "math/bits.deBruijn64tab"], apart := false, laid := [("math/bits.deBruijn32tab", laid_math_bits_deBruijn32tab), ("math/bits.deBruijn64tab", laid_math_bits_deBruijn64tab), ("internal/strconv.uint64pow10", laid_internal_strconv_uint64pow10)] }
def LaurentDividesSaid : Prop := laurentDividesRow.holds Tryd.pinned (OpenSpec.ofChange laurentDividesSpec)

/-- ITS FALSE NEIGHBOUR: 'it returns false'. Refute it at one input. -/
def laurentDividesWrong : ChangeSpec := { name := "laurentDivides", fn := fun _ => fun
  | [d1, d2, d3, d4] => { results := [.lit (.bool false)], args := [d1, d2, d3, d4] }
  | _ => none }
def LaurentDividesWrongFalsely : Prop := laurentDividesRow.holds Tryd.pinned (OpenSpec.ofChange laurentDividesWrong)

/-- 'unravellaw12.LaurentExact': WHATEVER THE INPUT: true; the input reads as it did. -/
def laurentExactSpec : ChangeSpec := { name := "laurentExact", fn := fun _ => fun
  | [d1, d2, d3, d4] => { results := [.lit (.bool true)], args := [d1, d2, d3, d4] }
  | _ => none }
def laurentExactRow : OpenClaim := { program := "ytlnjddjobbhcaaadoor", sum := "83166a0f32336bbd151812497bb8449e4e7be07975997f3c5574dcb46675e1f6", func := "unravel/unravellaw12.LaurentExact", spec := "laurentExact", inPlace := ["math/bits.Add64", "math/bits.Sub64", "internal/abi.NoEscape"], unfollowed := true, recurses := true, named := ["math/bits.divideError", "math/bits.overflowError", "internal/strconv.uint64pow10", "math/bits.deBruijn32tab", "math/bits.deBruijn64tab"], apart := false, laid := [("math/bits.deBruijn32tab", laid_math_bits_deBruijn32tab), ("math/bits.deBruijn64tab", laid_math_bits_deBruijn64tab), ("internal/strconv.uint64pow10", laid_internal_strconv_uint64pow10)] }
def LaurentExactSaid : Prop := laurentExactRow.holds Tryd.pinned (OpenSpec.ofChange laurentExactSpec)

/-- ITS FALSE NEIGHBOUR: 'it returns false'. Refute it at one input. -/
def laurentExactWrong : ChangeSpec := { name := "laurentExact", fn := fun _ => fun
  | [d1, d2, d3, d4] => { results := [.lit (.bool false)], args := [d1, d2, d3, d4] }
  | _ => none }
def LaurentExactWrongFalsely : Prop := laurentExactRow.holds Tryd.pinned (OpenSpec.ofChange laurentExactWrong)

/-- 'unravellaw12.LaurentRing': WHATEVER THE INPUT: true; the input reads as it did. -/
def laurentRingSpec : ChangeSpec := { name := "laurentRing", fn := fun _ => fun
  | [d1, d2, d3, d4, d5, d6] => { results := [.lit (.bool true)], args := [d1, d2, d3, d4, d5, d6] }
  | _ => none }
def laurentRingRow : OpenClaim := { program := "ytlnjddjobbhcaaadoor", sum := "83166a0f32336bbd151812497bb8449e4e7be07975997f3c5574dcb46675e1f6", func := "unravel/unravellaw12.LaurentRing", spec := "laurentRing", inPlace := ["math/bits.Add64", "math/bits.Sub64", "internal/abi.NoEscape"], unfollowed := true, recurses := true, named := ["math/bits.divideError", "math/bits.overflowError", "internal/strconv.uint64pow10", "math/bits.deBruijn32tab", "math/bits.deBruijn64tab"], apart := false, laid := [("math/bits.deBruijn32tab", laid_math_bits_deBruijn32tab), ("math/bits.deBruijn64tab", laid_math_bits_deBruijn64tab), ("internal/strconv.uint64pow10", laid_internal_strconv_uint64pow10)] }
def LaurentRingSaid : Prop := laurentRingRow.holds Tryd.pinned (OpenSpec.ofChange laurentRingSpec)

/-- ITS FALSE NEIGHBOUR: 'it returns false'. Refute it at one input. -/
def laurentRingWrong : ChangeSpec := { name := "laurentRing", fn := fun _ => fun
  | [d1, d2, d3, d4, d5, d6] => { results := [.lit (.bool false)], args := [d1, d2, d3, d4, d5, d6] }
  | _ => none }
def LaurentRingWrongFalsely : Prop := laurentRingRow.holds Tryd.pinned (OpenSpec.ofChange laurentRingWrong)

/-- 'unravellaw12.LaurentScales': WHATEVER THE INPUT: true; the input reads as it did. -/
def laurentScalesSpec : ChangeSpec := { name := "laurentScales", fn := fun _ => fun
  | [d1, d2, d3, d4, d5] => { results := [.lit (.bool true)], args := [d1, d2, d3, d4, d5] }
  | _ => none }
def laurentScalesRow : OpenClaim := { program := "ytlnjddjobbhcaaadoor", sum := "83166a0f32336bbd151812497bb8449e4e7be07975997f3c5574dcb46675e1f6", func := "unravel/unravellaw12.LaurentScales", spec := "laurentScales", inPlace := ["math/bits.Add64", "math/bits.Sub64", "internal/abi.NoEscape"], unfollowed := true, recurses := true, named := ["math/bits.divideError", "math/bits.overflowError", "internal/strconv.uint64pow10", "math/bits.deBruijn32tab", "math/bits.deBruijn64tab"], apart := false, laid := [("math/bits.deBruijn32tab", laid_math_bits_deBruijn32tab), ("math/bits.deBruijn64tab", laid_math_bits_deBruijn64tab), ("internal/strconv.uint64pow10", laid_internal_strconv_uint64pow10)] }
def LaurentScalesSaid : Prop := laurentScalesRow.holds Tryd.pinned (OpenSpec.ofChange laurentScalesSpec)

/-- ITS FALSE NEIGHBOUR: 'it returns false'. Refute it at one input. -/
def laurentScalesWrong : ChangeSpec := { name := "laurentScales", fn := fun _ => fun
  | [d1, d2, d3, d4, d5] => { results := [.lit (.bool false)], args := [d1, d2, d3, d4, d5] }
  | _ => none }
def LaurentScalesWrongFalsely : Prop := laurentScalesRow.holds Tryd.pinned (OpenSpec.ofChange laurentScalesWrong)

/-- 'unravellaw12.LaurentOf': WHATEVER THE INPUT: true; the input reads as it did. -/
def laurentOfSpec : ChangeSpec := { name := "laurentOf", fn := fun _ => fun
  | [d1, d2, d3] => { results := [.lit (.bool true)], args := [d1, d2, d3] }
  | _ => none }
def laurentOfRow : OpenClaim := { program := "ytlnjddjobbhcaaadoor", sum := "83166a0f32336bbd151812497bb8449e4e7be07975997f3c5574dcb46675e1f6", func := "unravel/unravellaw12.LaurentOf", spec := "laurentOf", inPlace := ["math/bits.Add64", "math/bits.Sub64", "internal/abi.NoEscape"], unfollowed := true, recurses := true, named := ["math/bits.divideError", "math/bits.overflowError", "internal/strconv.uint64pow10", "math/bits.deBruijn32tab", "math/bits.deBruijn64tab"], apart := false, laid := [("math/bits.deBruijn32tab", laid_math_bits_deBruijn32tab), ("math/bits.deBruijn64tab", laid_math_bits_deBruijn64tab), ("internal/strconv.uint64pow10", laid_internal_strconv_uint64pow10)] }
def LaurentOfSaid : Prop := laurentOfRow.holds Tryd.pinned (OpenSpec.ofChange laurentOfSpec)

/-- ITS FALSE NEIGHBOUR: 'it returns false'. Refute it at one input. -/
def laurentOfWrong : ChangeSpec := { name := "laurentOf", fn := fun _ => fun
  | [d1, d2, d3] => { results := [.lit (.bool false)], args := [d1, d2, d3] }
  | _ => none }
def LaurentOfWrongFalsely : Prop := laurentOfRow.holds Tryd.pinned (OpenSpec.ofChange laurentOfWrong)

/-- 'unravellaw12.LaurentValue': WHATEVER THE INPUT: true; the input reads as it did. -/
def laurentValueSpec : ChangeSpec := { name := "laurentValue", fn := fun _ => fun
  | [d1, d2, d3, d4, d5] => { results := [.lit (.bool true)], args := [d1, d2, d3, d4, d5] }
  | _ => none }
def laurentValueRow : OpenClaim := { program := "ytlnjddjobbhcaaadoor", sum := "83166a0f32336bbd151812497bb8449e4e7be07975997f3c5574dcb46675e1f6", func := "unravel/unravellaw12.LaurentValue", spec := "laurentValue", inPlace := ["math/bits.Add64", "math/bits.Sub64", "internal/abi.NoEscape"], unfollowed := true, recurses := true, named := ["math/bits.divideError", "math/bits.overflowError", "internal/strconv.uint64pow10", "math/bits.deBruijn32tab", "math/bits.deBruijn64tab"], apart := false, laid := [("math/bits.deBruijn32tab", laid_math_bits_deBruijn32tab), ("math/bits.deBruijn64tab", laid_math_bits_deBruijn64tab), ("internal/strconv.uint64pow10", laid_internal_strconv_uint64pow10)] }
def LaurentValueSaid : Prop := laurentValueRow.holds Tryd.pinned (OpenSpec.ofChange laurentValueSpec)

/-- ITS FALSE NEIGHBOUR: 'it returns false'. Refute it at one input. -/
def laurentValueWrong : ChangeSpec := { name := "laurentValue", fn := fun _ => fun
  | [d1, d2, d3, d4, d5] => { results := [.lit (.bool false)], args := [d1, d2, d3, d4, d5] }
  | _ => none }
def LaurentValueWrongFalsely : Prop := laurentValueRow.holds Tryd.pinned (OpenSpec.ofChange laurentValueWrong)

/-- 'unravellaw12.LaurentAt': WHATEVER THE INPUT: true; the input reads as it did. -/
def laurentAtSpec : ChangeSpec := { name := "laurentAt", fn := fun _ => fun
  | [d1, d2, d3, d4, d5] => { results := [.lit (.bool true)], args := [d1, d2, d3, d4, d5] }
  | _ => none }
def laurentAtRow : OpenClaim := { program := "ytlnjddjobbhcaaadoor", sum := "83166a0f32336bbd151812497bb8449e4e7be07975997f3c5574dcb46675e1f6", func := "unravel/unravellaw12.LaurentAt", spec := "laurentAt", inPlace := ["math/bits.Add64", "math/bits.Sub64", "internal/abi.NoEscape"], unfollowed := true, recurses := true, named := ["math/bits.divideError", "math/bits.overflowError", "internal/strconv.uint64pow10", "math/bits.deBruijn32tab", "math/bits.deBruijn64tab"], apart := false, laid := [("math/bits.deBruijn32tab", laid_math_bits_deBruijn32tab), ("math/bits.deBruijn64tab", laid_math_bits_deBruijn64tab), ("internal/strconv.uint64pow10", laid_internal_strconv_uint64pow10)] }
def LaurentAtSaid : Prop := laurentAtRow.holds Tryd.pinned (OpenSpec.ofChange laurentAtSpec)

/-- ITS FALSE NEIGHBOUR: 'it returns false'. Refute it at one input. -/
def laurentAtWrong : ChangeSpec := { name := "laurentAt", fn := fun _ => fun
  | [d1, d2, d3, d4, d5] => { results := [.lit (.bool false)], args := [d1, d2, d3, d4, d5] }
  | _ => none }
def LaurentAtWrongFalsely : Prop := laurentAtRow.holds Tryd.pinned (OpenSpec.ofChange laurentAtWrong)

/- THE SECOND FORM. 'bulk': how many values and letters a reading holds, each counted each time it is reached (what is shared counts as often as it is met; a slice's spare places count too). A statement '..UptoSaid' is the law's where the arguments, and the package variables that the reading takes, are together of bulk at most 1048576: NARROWER than '..Said'. Prove '..Said' where nothing that the law and all that it calls make is longer than what came in: it says more and counts as full. Else prove '..UptoSaid'. A law counts once. -/
mutual
def uptoBulk {H : Type} : DataW H → Nat
  | .lit (.string bytes) => bytes.length + 1
  | .lit _ => 1
  | .nil => 1
  | .ptr d => uptoBulk d + 1
  | .slice elems spare => uptoBulkAll elems + uptoBulkAll spare + 1
  | .agg parts => uptoBulkAll parts + 1
  | .iface _ d => uptoBulk d + 1
  | .map entries => uptoBulkEntries entries + 1
  | .held _ => 1
def uptoBulkAll {H : Type} : List (DataW H) → Nat
  | [] => 0
  | d :: r => uptoBulk d + uptoBulkAll r
def uptoBulkEntries {H : Type} : List (Lit × DataW H) → Nat
  | [] => 0
  | x :: r => uptoBulkEntry x + uptoBulkEntries r
def uptoBulkEntry {H : Type} : Lit × DataW H → Nat
  | (.string bytes, d) => bytes.length + uptoBulk d + 1
  | (_, d) => uptoBulk d + 1
 end
def uptoSmall : (H : Type) → List (DataW H) → Bool := fun _ ds => decide (uptoBulkAll ds ≤ 1048576)
def OpenSpec.upto (s : _root_.Go.ChangeSpec) : _root_.Go.OpenSpec := { _root_.Go.OpenSpec.ofChange s with cond := some uptoSmall }

/-- 'unravellaw12.LaurentDivides', WHERE WHAT IT READS IS OF BULK AT MOST 1048576: true; the input reads as it did. -/
def laurentDividesUptoRow : OpenClaim := { program := "ytlnjddjobbhcaaadoor", sum := "83166a0f32336bbd151812497bb8449e4e7be07975997f3c5574dcb46675e1f6", func := "unravel/unravellaw12.LaurentDivides", spec := "laurentDivides", inPlace := ["math/bits.Add64", "math/bits.Sub64", "internal/abi.NoEscape"], unfollowed := true, recurses := true, named := ["math/bits.divideError", "math/bits.overflowError", "internal/strconv.uint64pow10", "math/bits.deBruijn32tab", "math/bits.deBruijn64tab"], apart := false, laid := [("math/bits.deBruijn32tab", laid_math_bits_deBruijn32tab), ("math/bits.deBruijn64tab", laid_math_bits_deBruijn64tab), ("internal/strconv.uint64pow10", laid_internal_strconv_uint64pow10)], narrowed := true }
def LaurentDividesUptoSaid : Prop := laurentDividesUptoRow.holds Tryd.pinned (OpenSpec.upto laurentDividesSpec)

/-- 'unravellaw12.LaurentExact', WHERE WHAT IT READS IS OF BULK AT MOST 1048576: true; the input reads as it did. -/
def laurentExactUptoRow : OpenClaim := { program := "ytlnjddjobbhcaaadoor", sum := "83166a0f32336bbd151812497bb8449e4e7be07975997f3c5574dcb46675e1f6", func := "unravel/unravellaw12.LaurentExact", spec := "laurentExact", inPlace := ["math/bits.Add64", "math/bits.Sub64", "internal/abi.NoEscape"], unfollowed := true, recurses := true, named := ["math/bits.divideError", "math/bits.overflowError", "internal/strconv.uint64pow10", "math/bits.deBruijn32tab", "math/bits.deBruijn64tab"], apart := false, laid := [("math/bits.deBruijn32tab", laid_math_bits_deBruijn32tab), ("math/bits.deBruijn64tab", laid_math_bits_deBruijn64tab), ("internal/strconv.uint64pow10", laid_internal_strconv_uint64pow10)], narrowed := true }
def LaurentExactUptoSaid : Prop := laurentExactUptoRow.holds Tryd.pinned (OpenSpec.upto laurentExactSpec)

/-- 'unravellaw12.LaurentRing', WHERE WHAT IT READS IS OF BULK AT MOST 1048576: true; the input reads as it did. -/
def laurentRingUptoRow : OpenClaim := { program := "ytlnjddjobbhcaaadoor", sum := "83166a0f32336bbd151812497bb8449e4e7be07975997f3c5574dcb46675e1f6", func := "unravel/unravellaw12.LaurentRing", spec := "laurentRing", inPlace := ["math/bits.Add64", "math/bits.Sub64", "internal/abi.NoEscape"], unfollowed := true, recurses := true, named := ["math/bits.divideError", "math/bits.overflowError", "internal/strconv.uint64pow10", "math/bits.deBruijn32tab", "math/bits.deBruijn64tab"], apart := false, laid := [("math/bits.deBruijn32tab", laid_math_bits_deBruijn32tab), ("math/bits.deBruijn64tab", laid_math_bits_deBruijn64tab), ("internal/strconv.uint64pow10", laid_internal_strconv_uint64pow10)], narrowed := true }
def LaurentRingUptoSaid : Prop := laurentRingUptoRow.holds Tryd.pinned (OpenSpec.upto laurentRingSpec)

/-- 'unravellaw12.LaurentScales', WHERE WHAT IT READS IS OF BULK AT MOST 1048576: true; the input reads as it did. -/
def laurentScalesUptoRow : OpenClaim := { program := "ytlnjddjobbhcaaadoor", sum := "83166a0f32336bbd151812497bb8449e4e7be07975997f3c5574dcb46675e1f6", func := "unravel/unravellaw12.LaurentScales", spec := "laurentScales", inPlace := ["math/bits.Add64", "math/bits.Sub64", "internal/abi.NoEscape"], unfollowed := true, recurses := true, named := ["math/bits.divideError", "math/bits.overflowError", "internal/strconv.uint64pow10", "math/bits.deBruijn32tab", "math/bits.deBruijn64tab"], apart := false, laid := [("math/bits.deBruijn32tab", laid_math_bits_deBruijn32tab), ("math/bits.deBruijn64tab", laid_math_bits_deBruijn64tab), ("internal/strconv.uint64pow10", laid_internal_strconv_uint64pow10)], narrowed := true }
def LaurentScalesUptoSaid : Prop := laurentScalesUptoRow.holds Tryd.pinned (OpenSpec.upto laurentScalesSpec)

/-- 'unravellaw12.LaurentOf', WHERE WHAT IT READS IS OF BULK AT MOST 1048576: true; the input reads as it did. -/
def laurentOfUptoRow : OpenClaim := { program := "ytlnjddjobbhcaaadoor", sum := "83166a0f32336bbd151812497bb8449e4e7be07975997f3c5574dcb46675e1f6", func := "unravel/unravellaw12.LaurentOf", spec := "laurentOf", inPlace := ["math/bits.Add64", "math/bits.Sub64", "internal/abi.NoEscape"], unfollowed := true, recurses := true, named := ["math/bits.divideError", "math/bits.overflowError", "internal/strconv.uint64pow10", "math/bits.deBruijn32tab", "math/bits.deBruijn64tab"], apart := false, laid := [("math/bits.deBruijn32tab", laid_math_bits_deBruijn32tab), ("math/bits.deBruijn64tab", laid_math_bits_deBruijn64tab), ("internal/strconv.uint64pow10", laid_internal_strconv_uint64pow10)], narrowed := true }
def LaurentOfUptoSaid : Prop := laurentOfUptoRow.holds Tryd.pinned (OpenSpec.upto laurentOfSpec)

/-- 'unravellaw12.LaurentValue', WHERE WHAT IT READS IS OF BULK AT MOST 1048576: true; the input reads as it did. -/
def laurentValueUptoRow : OpenClaim := { program := "ytlnjddjobbhcaaadoor", sum := "83166a0f32336bbd151812497bb8449e4e7be07975997f3c5574dcb46675e1f6", func := "unravel/unravellaw12.LaurentValue", spec := "laurentValue", inPlace := ["math/bits.Add64", "math/bits.Sub64", "internal/abi.NoEscape"], unfollowed := true, recurses := true, named := ["math/bits.divideError", "math/bits.overflowError", "internal/strconv.uint64pow10", "math/bits.deBruijn32tab", "math/bits.deBruijn64tab"], apart := false, laid := [("math/bits.deBruijn32tab", laid_math_bits_deBruijn32tab), ("math/bits.deBruijn64tab", laid_math_bits_deBruijn64tab), ("internal/strconv.uint64pow10", laid_internal_strconv_uint64pow10)], narrowed := true }
def LaurentValueUptoSaid : Prop := laurentValueUptoRow.holds Tryd.pinned (OpenSpec.upto laurentValueSpec)

/-- 'unravellaw12.LaurentAt', WHERE WHAT IT READS IS OF BULK AT MOST 1048576: true; the input reads as it did. -/
def laurentAtUptoRow : OpenClaim := { program := "ytlnjddjobbhcaaadoor", sum := "83166a0f32336bbd151812497bb8449e4e7be07975997f3c5574dcb46675e1f6", func := "unravel/unravellaw12.LaurentAt", spec := "laurentAt", inPlace := ["math/bits.Add64", "math/bits.Sub64", "internal/abi.NoEscape"], unfollowed := true, recurses := true, named := ["math/bits.divideError", "math/bits.overflowError", "internal/strconv.uint64pow10", "math/bits.deBruijn32tab", "math/bits.deBruijn64tab"], apart := false, laid := [("math/bits.deBruijn32tab", laid_math_bits_deBruijn32tab), ("math/bits.deBruijn64tab", laid_math_bits_deBruijn64tab), ("internal/strconv.uint64pow10", laid_internal_strconv_uint64pow10)], narrowed := true }
def LaurentAtUptoSaid : Prop := laurentAtUptoRow.holds Tryd.pinned (OpenSpec.upto laurentAtSpec)

end Rows
end Go.Proofs.YtlnjddjobbhcaaaDoor
