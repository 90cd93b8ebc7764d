/-
  NARROWER THAN 'FOR EVERY INPUT', by the rows' own cells (each row's printed sentence says how): WordConfluent: laid · WordValid: laid · WordReduces: laid · WordGroup: laid · WordConjugate: laid · WordSubstitutes: laid · WordExponents: laid · WordTexts: laid · WordParses: laid.
  DERIVED. THE GIVEN ROWS OF THIS SEAT. 9 by the template 'for every input the law returns true; each argument reads behind the call as it read before'; 0 by the template 'total and deterministic' (their statements: YtgmfjhmphiiifaaDoorTotals.lean).
  GIVEN WITH THE SEED: the statements are not yours to turn. If you find one false, say at which input.
  Laid BY PROGRAM, IN A SANDBOX (cutbox-rows.mjs): the forced cells as the released guide's own fill.sh prints them over the translation a48247503f8c9c1b… (all of the seat's roots in one cut). By AI agents, Wed Nov 11 2026. No macro, syntax, notation, axiom, sorry.
-/
import Derived.Test.YtgmfjhmphiiifaaDoorChecked
import GoSem.PinnedTables
import GoSem.Claim
import GoSem.ClaimJoined
import GoSem.ClaimMapViews
import Derived.JoinedTies
import Derived.KernelRfl
namespace Go.Proofs.YtgmfjhmphiiifaaDoor
/- THE CELL 'sum', in the pinned program and in every row, IS THE sha256 OF THE DUMP (.gsa) THAT YtgmfjhmphiiifaaDoorProg.lean LOADS. Nothing in Lean hashes anything: it is a label: what it is worth is what the hold of that sum in a sandbox is worth. -/
noncomputable def Tryd.pinned : Pinned := { name := "ytgmfjhmphiiifaadoor", sum := "a48247503f8c9c1b6077f34e825ddafda2a06df489e44302713ee8755ee8de38", checked := Tryd.checked }
namespace Rows
def none {H : Type} : Left H := { results := [], args := [] }

/- WHAT THE LISTED PACKAGE-LEVEL VARIABLES READ AS WHEN THE CALL BEGINS. Each datum BY PROGRAM (the guide's laid-datum.mjs) off the statement by which the dump's own 'gosem.cut.vars' lays the variable. In a bare row this is a premise. The card (YtgmfjhmphiiifaaDoorCards.lean) ties it to the program's text. -/
def laid_math_bits_deBruijn32tab {H : Type} : DataW H := .agg [.lit (.int .u8 0), .lit (.int .u8 1), .lit (.int .u8 28), .lit (.int .u8 2), .lit (.int .u8 29), .lit (.int .u8 14), .lit (.int .u8 24), .lit (.int .u8 3), .lit (.int .u8 30), .lit (.int .u8 22), .lit (.int .u8 20), .lit (.int .u8 15), .lit (.int .u8 25), .lit (.int .u8 17), .lit (.int .u8 4), .lit (.int .u8 8), .lit (.int .u8 31), .lit (.int .u8 27), .lit (.int .u8 13), .lit (.int .u8 23), .lit (.int .u8 21), .lit (.int .u8 19), .lit (.int .u8 16), .lit (.int .u8 7), .lit (.int .u8 26), .lit (.int .u8 12), .lit (.int .u8 18), .lit (.int .u8 6), .lit (.int .u8 11), .lit (.int .u8 5), .lit (.int .u8 10), .lit (.int .u8 9)]
def laid_math_bits_deBruijn64tab {H : Type} : DataW H := .agg [.lit (.int .u8 0), .lit (.int .u8 1), .lit (.int .u8 56), .lit (.int .u8 2), .lit (.int .u8 57), .lit (.int .u8 49), .lit (.int .u8 28), .lit (.int .u8 3), .lit (.int .u8 61), .lit (.int .u8 58), .lit (.int .u8 42), .lit (.int .u8 50), .lit (.int .u8 38), .lit (.int .u8 29), .lit (.int .u8 17), .lit (.int .u8 4), .lit (.int .u8 62), .lit (.int .u8 47), .lit (.int .u8 59), .lit (.int .u8 36), .lit (.int .u8 45), .lit (.int .u8 43), .lit (.int .u8 51), .lit (.int .u8 22), .lit (.int .u8 53), .lit (.int .u8 39), .lit (.int .u8 33), .lit (.int .u8 30), .lit (.int .u8 24), .lit (.int .u8 18), .lit (.int .u8 12), .lit (.int .u8 5), .lit (.int .u8 63), .lit (.int .u8 55), .lit (.int .u8 48), .lit (.int .u8 27), .lit (.int .u8 60), .lit (.int .u8 41), .lit (.int .u8 37), .lit (.int .u8 16), .lit (.int .u8 46), .lit (.int .u8 35), .lit (.int .u8 44), .lit (.int .u8 21), .lit (.int .u8 52), .lit (.int .u8 32), .lit (.int .u8 23), .lit (.int .u8 11), .lit (.int .u8 54), .lit (.int .u8 26), .lit (.int .u8 40), .lit (.int .u8 15), .lit (.int .u8 34), .lit (.int .u8 20), .lit (.int .u8 31), .lit (.int .u8 10), .lit (.int .u8 25), .lit (.int .u8 14), .lit (.int .u8 19), .lit (.int .u8 9), .lit (.int .u8 13), .lit (.int .u8 8), .lit (.int .u8 7), .lit (.int .u8 6)]
def laid_internal_strconv_uint64pow10 {H : Type} : DataW H := .agg [.lit (.int .u64 1), .lit (.int .u64 10), .lit (.int .u64 100), .lit (.int .u64 1000), .lit (.int .u64 10000), .lit (.int .u64 100000), .lit (.int .u64 1000000), .lit (.int .u64 10000000), .lit (.int .u64 100000000), .lit (.int .u64 1000000000), .lit (.int .u64 10000000000), .lit (.int .u64 100000000000), .lit (.int .u64 1000000000000), .lit (.int .u64 10000000000000), .lit (.int .u64 100000000000000), .lit (.int .u64 1000000000000000), .lit (.int .u64 10000000000000000), .lit (.int .u64 100000000000000000), .lit (.int .u64 1000000000000000000), .lit (.int .u64 10000000000000000000)]
def laid_unicode_utf8_acceptRanges {H : Type} : DataW H := .agg [.agg [.lit (.int .u8 128), .lit (.int .u8 191)], .agg [.lit (.int .u8 160), .lit (.int .u8 191)], .agg [.lit (.int .u8 128), .lit (.int .u8 159)], .agg [.lit (.int .u8 144), .lit (.int .u8 191)], .agg [.lit (.int .u8 128), .lit (.int .u8 143)], .agg [.lit (.int .u8 0), .lit (.int .u8 0)], .agg [.lit (.int .u8 0), .lit (.int .u8 0)], .agg [.lit (.int .u8 0), .lit (.int .u8 0)], .agg [.lit (.int .u8 0), .lit (.int .u8 0)], .agg [.lit (.int .u8 0), .lit (.int .u8 0)], .agg [.lit (.int .u8 0), .lit (.int .u8 0)], .agg [.lit (.int .u8 0), .lit (.int .u8 0)], .agg [.lit (.int .u8 0), .lit (.int .u8 0)], .agg [.lit (.int .u8 0), .lit (.int .u8 0)], .agg [.lit (.int .u8 0), .lit (.int .u8 0)], .agg [.lit (.int .u8 0), .lit (.int .u8 0)]]
/-- One of Go's own tables, pinned by name: the form's constant. -/
def laid_unicode_utf8_first : DataW Unit := Go.Pinned.utf8First

/-- 'unravellaw21.WordConfluent': WHATEVER THE INPUT: true; the input reads as it did. -/
def wordConfluentSpec : ChangeSpec := { name := "wordConfluent", fn := fun _ => fun
  | [d1, d2, d3] => { results := [.lit (.bool true)], args := [d1, d2, d3] }
  | _ => none }
def wordConfluentRow : OpenClaim := { program := "ytgmfjhmphiiifaadoor", sum := "a48247503f8c9c1b6077f34e825ddafda2a06df489e44302713ee8755ee8de38", func := "unravel/unravellaw21.WordConfluent", spec := "wordConfluent", inPlace := ["internal/abi.NoEscape"], named := ["internal/strconv.uint64pow10", "math/bits.deBruijn32tab", "math/bits.deBruijn64tab"], apart := false, laid := [("math/bits.deBruijn32tab", laid_math_bits_deBruijn32tab), ("math/bits.deBruijn64tab", laid_math_bits_deBruijn64tab), ("internal/strconv.uint64pow10", laid_internal_strconv_uint64pow10)] }
def WordConfluentSaid : Prop := wordConfluentRow.holds Tryd.pinned (OpenSpec.ofChange wordConfluentSpec)

/-- ITS FALSE NEIGHBOUR: 'it returns false'. Refute it at one input. -/
def wordConfluentWrong : ChangeSpec := { name := "wordConfluent", fn := fun _ => fun
  | [d1, d2, d3] => { results := [.lit (.bool false)], args := [d1, d2, d3] }
  | _ => none }
def WordConfluentWrongFalsely : Prop := wordConfluentRow.holds Tryd.pinned (OpenSpec.ofChange wordConfluentWrong)

/-- 'unravellaw21.WordValid': WHATEVER THE INPUT: true; the input reads as it did. -/
def wordValidSpec : ChangeSpec := { name := "wordValid", fn := fun _ => fun
  | [d1, d2] => { results := [.lit (.bool true)], args := [d1, d2] }
  | _ => none }
def wordValidRow : OpenClaim := { program := "ytgmfjhmphiiifaadoor", sum := "a48247503f8c9c1b6077f34e825ddafda2a06df489e44302713ee8755ee8de38", func := "unravel/unravellaw21.WordValid", spec := "wordValid", inPlace := ["internal/abi.NoEscape"], named := ["internal/strconv.uint64pow10", "math/bits.deBruijn32tab", "math/bits.deBruijn64tab"], apart := false, laid := [("math/bits.deBruijn32tab", laid_math_bits_deBruijn32tab), ("math/bits.deBruijn64tab", laid_math_bits_deBruijn64tab), ("internal/strconv.uint64pow10", laid_internal_strconv_uint64pow10)] }
def WordValidSaid : Prop := wordValidRow.holds Tryd.pinned (OpenSpec.ofChange wordValidSpec)

/-- ITS FALSE NEIGHBOUR: 'it returns false'. Refute it at one input. -/
def wordValidWrong : ChangeSpec := { name := "wordValid", fn := fun _ => fun
  | [d1, d2] => { results := [.lit (.bool false)], args := [d1, d2] }
  | _ => none }
def WordValidWrongFalsely : Prop := wordValidRow.holds Tryd.pinned (OpenSpec.ofChange wordValidWrong)

/-- 'unravellaw21.WordReduces': WHATEVER THE INPUT: true; the input reads as it did. -/
def wordReducesSpec : ChangeSpec := { name := "wordReduces", fn := fun _ => fun
  | [d] => { results := [.lit (.bool true)], args := [d] }
  | _ => none }
def wordReducesRow : OpenClaim := { program := "ytgmfjhmphiiifaadoor", sum := "a48247503f8c9c1b6077f34e825ddafda2a06df489e44302713ee8755ee8de38", func := "unravel/unravellaw21.WordReduces", spec := "wordReduces", inPlace := ["internal/abi.NoEscape"], unfollowed := true, recurses := true, named := ["internal/strconv.uint64pow10", "math/bits.deBruijn32tab", "math/bits.deBruijn64tab"], apart := false, laid := [("math/bits.deBruijn32tab", laid_math_bits_deBruijn32tab), ("math/bits.deBruijn64tab", laid_math_bits_deBruijn64tab), ("internal/strconv.uint64pow10", laid_internal_strconv_uint64pow10)] }
def WordReducesSaid : Prop := wordReducesRow.holds Tryd.pinned (OpenSpec.ofChange wordReducesSpec)

/-- ITS FALSE NEIGHBOUR: 'it returns false'. Refute it at one input. -/
def wordReducesWrong : ChangeSpec := { name := "wordReduces", fn := fun _ => fun
  | [d] => { results := [.lit (.bool false)], args := [d] }
  | _ => none }
def WordReducesWrongFalsely : Prop := wordReducesRow.holds Tryd.pinned (OpenSpec.ofChange wordReducesWrong)

/-- 'unravellaw21.WordGroup': WHATEVER THE INPUT: true; the input reads as it did. -/
def wordGroupSpec : ChangeSpec := { name := "wordGroup", fn := fun _ => fun
  | [d1, d2, d3] => { results := [.lit (.bool true)], args := [d1, d2, d3] }
  | _ => none }
def wordGroupRow : OpenClaim := { program := "ytgmfjhmphiiifaadoor", sum := "a48247503f8c9c1b6077f34e825ddafda2a06df489e44302713ee8755ee8de38", func := "unravel/unravellaw21.WordGroup", spec := "wordGroup", inPlace := ["internal/abi.NoEscape"], unfollowed := true, recurses := true, named := ["internal/strconv.uint64pow10", "math/bits.deBruijn32tab", "math/bits.deBruijn64tab"], apart := false, laid := [("math/bits.deBruijn32tab", laid_math_bits_deBruijn32tab), ("math/bits.deBruijn64tab", laid_math_bits_deBruijn64tab), ("internal/strconv.uint64pow10", laid_internal_strconv_uint64pow10)] }
def WordGroupSaid : Prop := wordGroupRow.holds Tryd.pinned (OpenSpec.ofChange wordGroupSpec)

/-- ITS FALSE NEIGHBOUR: 'it returns false'. Refute it at one input. -/
def wordGroupWrong : ChangeSpec := { name := "wordGroup", fn := fun _ => fun
  | [d1, d2, d3] => { results := [.lit (.bool false)], args := [d1, d2, d3] }
  | _ => none }
def WordGroupWrongFalsely : Prop := wordGroupRow.holds Tryd.pinned (OpenSpec.ofChange wordGroupWrong)

/-- 'unravellaw21.WordConjugate': WHATEVER THE INPUT: true; the input reads as it did. -/
def wordConjugateSpec : ChangeSpec := { name := "wordConjugate", fn := fun _ => fun
  | [d1, d2, d3] => { results := [.lit (.bool true)], args := [d1, d2, d3] }
  | _ => none }
def wordConjugateRow : OpenClaim := { program := "ytgmfjhmphiiifaadoor", sum := "a48247503f8c9c1b6077f34e825ddafda2a06df489e44302713ee8755ee8de38", func := "unravel/unravellaw21.WordConjugate", spec := "wordConjugate", inPlace := ["internal/abi.NoEscape"], unfollowed := true, recurses := true, named := ["internal/strconv.uint64pow10", "math/bits.deBruijn32tab", "math/bits.deBruijn64tab"], apart := false, laid := [("math/bits.deBruijn32tab", laid_math_bits_deBruijn32tab), ("math/bits.deBruijn64tab", laid_math_bits_deBruijn64tab), ("internal/strconv.uint64pow10", laid_internal_strconv_uint64pow10)] }
def WordConjugateSaid : Prop := wordConjugateRow.holds Tryd.pinned (OpenSpec.ofChange wordConjugateSpec)

/-- ITS FALSE NEIGHBOUR: 'it returns false'. Refute it at one input. -/
def wordConjugateWrong : ChangeSpec := { name := "wordConjugate", fn := fun _ => fun
  | [d1, d2, d3] => { results := [.lit (.bool false)], args := [d1, d2, d3] }
  | _ => none }
def WordConjugateWrongFalsely : Prop := wordConjugateRow.holds Tryd.pinned (OpenSpec.ofChange wordConjugateWrong)

/-- 'unravellaw21.WordSubstitutes': WHATEVER THE INPUT: true; the input reads as it did. -/
def wordSubstitutesSpec : ChangeSpec := { name := "wordSubstitutes", fn := fun _ => fun
  | [d1, d2, d3] => { results := [.lit (.bool true)], args := [d1, d2, d3] }
  | _ => none }
def wordSubstitutesRow : OpenClaim := { program := "ytgmfjhmphiiifaadoor", sum := "a48247503f8c9c1b6077f34e825ddafda2a06df489e44302713ee8755ee8de38", func := "unravel/unravellaw21.WordSubstitutes", spec := "wordSubstitutes", inPlace := ["internal/abi.NoEscape"], unfollowed := true, recurses := true, named := ["internal/strconv.uint64pow10", "math/bits.deBruijn32tab", "math/bits.deBruijn64tab"], apart := false, laid := [("math/bits.deBruijn32tab", laid_math_bits_deBruijn32tab), ("math/bits.deBruijn64tab", laid_math_bits_deBruijn64tab), ("internal/strconv.uint64pow10", laid_internal_strconv_uint64pow10)] }
def WordSubstitutesSaid : Prop := wordSubstitutesRow.holds Tryd.pinned (OpenSpec.ofChange wordSubstitutesSpec)

/-- ITS FALSE NEIGHBOUR: 'it returns false'. Refute it at one input. -/
def wordSubstitutesWrong : ChangeSpec := { name := "wordSubstitutes", fn := fun _ => fun
  | [d1, d2, d3] => { results := [.lit (.bool false)], args := [d1, d2, d3] }
  | _ => none }
def WordSubstitutesWrongFalsely : Prop := wordSubstitutesRow.holds Tryd.pinned (OpenSpec.ofChange wordSubstitutesWrong)

/-- 'unravellaw21.WordExponents': WHATEVER THE INPUT: true; the input reads as it did. -/
def wordExponentsSpec : ChangeSpec := { name := "wordExponents", fn := fun _ => fun
  | [d1, d2, d3] => { results := [.lit (.bool true)], args := [d1, d2, d3] }
  | _ => none }
def wordExponentsRow : OpenClaim := { program := "ytgmfjhmphiiifaadoor", sum := "a48247503f8c9c1b6077f34e825ddafda2a06df489e44302713ee8755ee8de38", func := "unravel/unravellaw21.WordExponents", spec := "wordExponents", inPlace := ["internal/abi.NoEscape"], unfollowed := true, recurses := true, named := ["internal/strconv.uint64pow10", "math/bits.deBruijn32tab", "math/bits.deBruijn64tab"], apart := false, laid := [("math/bits.deBruijn32tab", laid_math_bits_deBruijn32tab), ("math/bits.deBruijn64tab", laid_math_bits_deBruijn64tab), ("internal/strconv.uint64pow10", laid_internal_strconv_uint64pow10)] }
def WordExponentsSaid : Prop := wordExponentsRow.holds Tryd.pinned (OpenSpec.ofChange wordExponentsSpec)

/-- ITS FALSE NEIGHBOUR: 'it returns false'. Refute it at one input. -/
def wordExponentsWrong : ChangeSpec := { name := "wordExponents", fn := fun _ => fun
  | [d1, d2, d3] => { results := [.lit (.bool false)], args := [d1, d2, d3] }
  | _ => none }
def WordExponentsWrongFalsely : Prop := wordExponentsRow.holds Tryd.pinned (OpenSpec.ofChange wordExponentsWrong)

/-- 'unravellaw21.WordTexts': WHATEVER THE INPUT: true; the input reads as it did. -/
def wordTextsSpec : ChangeSpec := { name := "wordTexts", fn := fun _ => fun
  | [d] => { results := [.lit (.bool true)], args := [d] }
  | _ => none }
def wordTextsRow : OpenClaim := { program := "ytgmfjhmphiiifaadoor", sum := "a48247503f8c9c1b6077f34e825ddafda2a06df489e44302713ee8755ee8de38", func := "unravel/unravellaw21.WordTexts", spec := "wordTexts", inPlace := ["internal/abi.NoEscape", "internal/bytealg.CountString", "internal/bytealg.IndexByteString", "internal/bytealg.IndexString"], recurses := true, named := ["internal/strconv.uint64pow10", "math/bits.deBruijn32tab", "math/bits.deBruijn64tab", "unicode/utf8.first", "unicode/utf8.acceptRanges", "internal/bytealg.MaxLen"], apart := false, laid := [("math/bits.deBruijn32tab", laid_math_bits_deBruijn32tab), ("math/bits.deBruijn64tab", laid_math_bits_deBruijn64tab), ("internal/strconv.uint64pow10", laid_internal_strconv_uint64pow10), ("unicode/utf8.acceptRanges", laid_unicode_utf8_acceptRanges), ("unicode/utf8.first", laid_unicode_utf8_first)] }
def WordTextsSaid : Prop := wordTextsRow.holds Tryd.pinned (OpenSpec.ofChange wordTextsSpec)

/-- ITS FALSE NEIGHBOUR: 'it returns false'. Refute it at one input. -/
def wordTextsWrong : ChangeSpec := { name := "wordTexts", fn := fun _ => fun
  | [d] => { results := [.lit (.bool false)], args := [d] }
  | _ => none }
def WordTextsWrongFalsely : Prop := wordTextsRow.holds Tryd.pinned (OpenSpec.ofChange wordTextsWrong)

/-- 'unravellaw21.WordParses': WHATEVER THE INPUT: true; the input reads as it did. -/
def wordParsesSpec : ChangeSpec := { name := "wordParses", fn := fun _ => fun
  | [d] => { results := [.lit (.bool true)], args := [d] }
  | _ => none }
def wordParsesRow : OpenClaim := { program := "ytgmfjhmphiiifaadoor", sum := "a48247503f8c9c1b6077f34e825ddafda2a06df489e44302713ee8755ee8de38", func := "unravel/unravellaw21.WordParses", spec := "wordParses", inPlace := ["internal/abi.NoEscape", "internal/bytealg.CountString", "internal/bytealg.IndexByteString", "internal/bytealg.IndexString"], named := ["internal/strconv.uint64pow10", "math/bits.deBruijn32tab", "math/bits.deBruijn64tab", "unicode/utf8.first", "unicode/utf8.acceptRanges", "internal/bytealg.MaxLen"], apart := false, laid := [("math/bits.deBruijn32tab", laid_math_bits_deBruijn32tab), ("math/bits.deBruijn64tab", laid_math_bits_deBruijn64tab), ("internal/strconv.uint64pow10", laid_internal_strconv_uint64pow10), ("unicode/utf8.acceptRanges", laid_unicode_utf8_acceptRanges), ("unicode/utf8.first", laid_unicode_utf8_first)] }
def WordParsesSaid : Prop := wordParsesRow.holds Tryd.pinned (OpenSpec.ofChange wordParsesSpec)

/-- ITS FALSE NEIGHBOUR: 'it returns false'. Refute it at one input. -/
def wordParsesWrong : ChangeSpec := { name := "wordParses", fn := fun _ => fun
  | [d] => { results := [.lit (.bool false)], args := [d] }
  | _ => none }
def WordParsesWrongFalsely : Prop := wordParsesRow.holds Tryd.pinned (OpenSpec.ofChange wordParsesWrong)

/- THE SECOND FORM. 'bulk': how many values and letters a reading holds, each counted each time it is reached (what is shared counts as often as it is met; a slice's spare places count too). A statement '..UptoSaid' is the law's where the arguments, and the package variables that the reading takes, are together of bulk at most 1048576: NARROWER than '..Said'. Prove '..Said' where nothing that the law and all that it calls make is longer than what came in: it says more and counts as full. Else prove '..UptoSaid'. A law counts once. -/
mutual
def uptoBulk {H : Type} : DataW H → Nat
  | .lit (.string bytes) => bytes.length + 1
  | .lit _ => 1
  | .nil => 1
  | .ptr d => uptoBulk d + 1
  | .slice elems spare => uptoBulkAll elems + uptoBulkAll spare + 1
  | .agg parts => uptoBulkAll parts + 1
  | .iface _ d => uptoBulk d + 1
  | .map entries => uptoBulkEntries entries + 1
  | .held _ => 1
def uptoBulkAll {H : Type} : List (DataW H) → Nat
  | [] => 0
  | d :: r => uptoBulk d + uptoBulkAll r
def uptoBulkEntries {H : Type} : List (Lit × DataW H) → Nat
  | [] => 0
  | x :: r => uptoBulkEntry x + uptoBulkEntries r
def uptoBulkEntry {H : Type} : Lit × DataW H → Nat
  | (.string bytes, d) => bytes.length + uptoBulk d + 1
  | (_, d) => uptoBulk d + 1
 end
def uptoSmall : (H : Type) → List (DataW H) → Bool := fun _ ds => decide (uptoBulkAll ds ≤ 1048576)
def OpenSpec.upto (s : _root_.Go.ChangeSpec) : _root_.Go.OpenSpec := { _root_.Go.OpenSpec.ofChange s with cond := some uptoSmall }

/-- 'unravellaw21.WordConfluent', WHERE WHAT IT READS IS OF BULK AT MOST 1048576: true; the input reads as it did. -/
def wordConfluentUptoRow : OpenClaim := { program := "ytgmfjhmphiiifaadoor", sum := "a48247503f8c9c1b6077f34e825ddafda2a06df489e44302713ee8755ee8de38", func := "unravel/unravellaw21.WordConfluent", spec := "wordConfluent", inPlace := ["internal/abi.NoEscape"], named := ["internal/strconv.uint64pow10", "math/bits.deBruijn32tab", "math/bits.deBruijn64tab"], apart := false, laid := [("math/bits.deBruijn32tab", laid_math_bits_deBruijn32tab), ("math/bits.deBruijn64tab", laid_math_bits_deBruijn64tab), ("internal/strconv.uint64pow10", laid_internal_strconv_uint64pow10)], narrowed := true }
def WordConfluentUptoSaid : Prop := wordConfluentUptoRow.holds Tryd.pinned (OpenSpec.upto wordConfluentSpec)

/-- 'unravellaw21.WordValid', WHERE WHAT IT READS IS OF BULK AT MOST 1048576: true; the input reads as it did. -/
def wordValidUptoRow : OpenClaim := { program := "ytgmfjhmphiiifaadoor", sum := "a48247503f8c9c1b6077f34e825ddafda2a06df489e44302713ee8755ee8de38", func := "unravel/unravellaw21.WordValid", spec := "wordValid", inPlace := ["internal/abi.NoEscape"], named := ["internal/strconv.uint64pow10", "math/bits.deBruijn32tab", "math/bits.deBruijn64tab"], apart := false, laid := [("math/bits.deBruijn32tab", laid_math_bits_deBruijn32tab), ("math/bits.deBruijn64tab", laid_math_bits_deBruijn64tab), ("internal/strconv.uint64pow10", laid_internal_strconv_uint64pow10)], narrowed := true }
def WordValidUptoSaid : Prop := wordValidUptoRow.holds Tryd.pinned (OpenSpec.upto wordValidSpec)

/-- 'unravellaw21.WordReduces', WHERE WHAT IT READS IS OF BULK AT MOST 1048576: true; the input reads as it did. -/
def wordReducesUptoRow : OpenClaim := { program := "ytgmfjhmphiiifaadoor", sum := "a48247503f8c9c1b6077f34e825ddafda2a06df489e44302713ee8755ee8de38", func := "unravel/unravellaw21.WordReduces", spec := "wordReduces", inPlace := ["internal/abi.NoEscape"], unfollowed := true, recurses := true, named := ["internal/strconv.uint64pow10", "math/bits.deBruijn32tab", "math/bits.deBruijn64tab"], apart := false, laid := [("math/bits.deBruijn32tab", laid_math_bits_deBruijn32tab), ("math/bits.deBruijn64tab", laid_math_bits_deBruijn64tab), ("internal/strconv.uint64pow10", laid_internal_strconv_uint64pow10)], narrowed := true }
def WordReducesUptoSaid : Prop := wordReducesUptoRow.holds Tryd.pinned (OpenSpec.upto wordReducesSpec)

/-- 'unravellaw21.WordGroup', WHERE WHAT IT READS IS OF BULK AT MOST 1048576: true; the input reads as it did. -/
def wordGroupUptoRow : OpenClaim := { program := "ytgmfjhmphiiifaadoor", sum := "a48247503f8c9c1b6077f34e825ddafda2a06df489e44302713ee8755ee8de38", func := "unravel/unravellaw21.WordGroup", spec := "wordGroup", inPlace := ["internal/abi.NoEscape"], unfollowed := true, recurses := true, named := ["internal/strconv.uint64pow10", "math/bits.deBruijn32tab", "math/bits.deBruijn64tab"], apart := false, laid := [("math/bits.deBruijn32tab", laid_math_bits_deBruijn32tab), ("math/bits.deBruijn64tab", laid_math_bits_deBruijn64tab), ("internal/strconv.uint64pow10", laid_internal_strconv_uint64pow10)], narrowed := true }
def WordGroupUptoSaid : Prop := wordGroupUptoRow.holds Tryd.pinned (OpenSpec.upto wordGroupSpec)

/-- 'unravellaw21.WordConjugate', WHERE WHAT IT READS IS OF BULK AT MOST 1048576: true; the input reads as it did. -/
def wordConjugateUptoRow : OpenClaim := { program := "ytgmfjhmphiiifaadoor", sum := "a48247503f8c9c1b6077f34e825ddafda2a06df489e44302713ee8755ee8de38", func := "unravel/unravellaw21.WordConjugate", spec := "wordConjugate", inPlace := ["internal/abi.NoEscape"], unfollowed := true, recurses := true, named := ["internal/strconv.uint64pow10", "math/bits.deBruijn32tab", "math/bits.deBruijn64tab"], apart := false, laid := [("math/bits.deBruijn32tab", laid_math_bits_deBruijn32tab), ("math/bits.deBruijn64tab", laid_math_bits_deBruijn64tab), ("internal/strconv.uint64pow10", laid_internal_strconv_uint64pow10)], narrowed := true }
def WordConjugateUptoSaid : Prop := wordConjugateUptoRow.holds Tryd.pinned (OpenSpec.upto wordConjugateSpec)

/-- 'unravellaw21.WordSubstitutes', WHERE WHAT IT READS IS OF BULK AT MOST 1048576: true; the input reads as it did. -/
def wordSubstitutesUptoRow : OpenClaim := { program := "ytgmfjhmphiiifaadoor", sum := "a48247503f8c9c1b6077f34e825ddafda2a06df489e44302713ee8755ee8de38", func := "unravel/unravellaw21.WordSubstitutes", spec := "wordSubstitutes", inPlace := ["internal/abi.NoEscape"], unfollowed := true, recurses := true, named := ["internal/strconv.uint64pow10", "math/bits.deBruijn32tab", "math/bits.deBruijn64tab"], apart := false, laid := [("math/bits.deBruijn32tab", laid_math_bits_deBruijn32tab), ("math/bits.deBruijn64tab", laid_math_bits_deBruijn64tab), ("internal/strconv.uint64pow10", laid_internal_strconv_uint64pow10)], narrowed := true }
def WordSubstitutesUptoSaid : Prop := wordSubstitutesUptoRow.holds Tryd.pinned (OpenSpec.upto wordSubstitutesSpec)

/-- 'unravellaw21.WordExponents', WHERE WHAT IT READS IS OF BULK AT MOST 1048576: true; the input reads as it did. -/
def wordExponentsUptoRow : OpenClaim := { program := "ytgmfjhmphiiifaadoor", sum := "a48247503f8c9c1b6077f34e825ddafda2a06df489e44302713ee8755ee8de38", func := "unravel/unravellaw21.WordExponents", spec := "wordExponents", inPlace := ["internal/abi.NoEscape"], unfollowed := true, recurses := true, named := ["internal/strconv.uint64pow10", "math/bits.deBruijn32tab", "math/bits.deBruijn64tab"], apart := false, laid := [("math/bits.deBruijn32tab", laid_math_bits_deBruijn32tab), ("math/bits.deBruijn64tab", laid_math_bits_deBruijn64tab), ("internal/strconv.uint64pow10", laid_internal_strconv_uint64pow10)], narrowed := true }
def WordExponentsUptoSaid : Prop := wordExponentsUptoRow.holds Tryd.pinned (OpenSpec.upto wordExponentsSpec)

/-- 'unravellaw21.WordTexts', WHERE WHAT IT READS IS OF BULK AT MOST 1048576: true; the input reads as it did. -/
def wordTextsUptoRow : OpenClaim := { program := "ytgmfjhmphiiifaadoor", sum := "a48247503f8c9c1b6077f34e825ddafda2a06df489e44302713ee8755ee8de38", func := "unravel/unravellaw21.WordTexts", spec := "wordTexts", inPlace := ["internal/abi.NoEscape", "internal/bytealg.CountString", "internal/bytealg.IndexByteString", "internal/bytealg.IndexString"], recurses := true, named := ["internal/strconv.uint64pow10", "math/bits.deBruijn32tab", "math/bits.deBruijn64tab", "unicode/utf8.first", "unicode/utf8.acceptRanges", "internal/bytealg.MaxLen"], apart := false, laid := [("math/bits.deBruijn32tab", laid_math_bits_deBruijn32tab), ("math/bits.deBruijn64tab", laid_math_bits_deBruijn64tab), ("internal/strconv.uint64pow10", laid_internal_strconv_uint64pow10), ("unicode/utf8.acceptRanges", laid_unicode_utf8_acceptRanges), ("unicode/utf8.first", laid_unicode_utf8_first)], narrowed := true }
def WordTextsUptoSaid : Prop := wordTextsUptoRow.holds Tryd.pinned (OpenSpec.upto wordTextsSpec)

/-- 'unravellaw21.WordParses', WHERE WHAT IT READS IS OF BULK AT MOST 1048576: true; the input reads as it did. -/
def wordParsesUptoRow : OpenClaim := { program := "ytgmfjhmphiiifaadoor", sum := "a48247503f8c9c1b6077f34e825ddafda2a06df489e44302713ee8755ee8de38", func := "unravel/unravellaw21.WordParses", spec := "wordParses", inPlace := ["internal/abi.NoEscape", "internal/bytealg.CountString", "internal/bytealg.IndexByteString", "internal/bytealg.IndexString"], named := ["internal/strconv.uint64pow10", "math/bits.deBruijn32tab", "math/bits.deBruijn64tab", "unicode/utf8.first", "unicode/utf8.acceptRanges", "internal/bytealg.MaxLen"], apart := false, laid := [("math/bits.deBruijn32tab", laid_math_bits_deBruijn32tab), ("math/bits.deBruijn64tab", laid_math_bits_deBruijn64tab), ("internal/strconv.uint64pow10", laid_internal_strconv_uint64pow10), ("unicode/utf8.acceptRanges", laid_unicode_utf8_acceptRanges), ("unicode/utf8.first", laid_unicode_utf8_first)], narrowed := true }
def WordParsesUptoSaid : Prop := wordParsesUptoRow.holds Tryd.pinned (OpenSpec.upto wordParsesSpec)

end Rows
end Go.Proofs.YtgmfjhmphiiifaaDoor
