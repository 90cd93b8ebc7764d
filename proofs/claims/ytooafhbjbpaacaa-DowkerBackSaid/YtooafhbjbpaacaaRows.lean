/-
  No cell of these rows narrows 'for every input' (looked for: loops, veiled, ifaces, maps, wideKeys, modest, calm, conditions, laid).
  DERIVED. THE GIVEN ROWS OF THIS SEAT. 7 by the template 'for every input the law returns true; each argument reads behind the call as it read before'; 0 by the template 'total and deterministic' (their statements: YtooafhbjbpaacaaTotals.lean).
  GIVEN WITH THE SEED: the statements are not yours to turn. If you find one false, say at which input.
  Laid BY PROGRAM, IN A SANDBOX (cutbox-rows.mjs): the forced cells as the released guide's own fill.sh prints them over the translation 6869c1563eaef3a3… (all of the seat's roots in one cut). By AI agents, Wed Nov 11 2026. No macro, syntax, notation, axiom, sorry.
-/
import Derived.Test.YtooafhbjbpaacaaChecked
import GoSem.Claim
import GoSem.ClaimJoined
import GoSem.ClaimMapViews
import Derived.JoinedTies
import Derived.KernelRfl
namespace Go.Proofs.Ytooafhbjbpaacaa
/- THE CELL 'sum', in the pinned program and in every row, IS THE sha256 OF THE DUMP (.gsa) THAT YtooafhbjbpaacaaProg.lean LOADS. Nothing in Lean hashes anything: it is a label: what it is worth is what the hold of that sum in a sandbox is worth. -/
noncomputable def Try.pinned : Pinned := { name := "ytooafhbjbpaacaa", sum := "6869c1563eaef3a3ecd4e47431cd7c09ef28cd0fbf8b03a3a6d36386e43d0980", checked := Try.checked }
namespace Rows
def none {H : Type} : Left H := { results := [], args := [] }

/-- 'unravellaw04.DowkerOf': WHATEVER THE INPUT: true; the input reads as it did. -/
def dowkerOfSpec : ChangeSpec := { name := "dowkerOf", fn := fun _ => fun
  | [d] => { results := [.lit (.bool true)], args := [d] }
  | _ => none }
def dowkerOfRow : OpenClaim := { program := "ytooafhbjbpaacaa", sum := "6869c1563eaef3a3ecd4e47431cd7c09ef28cd0fbf8b03a3a6d36386e43d0980", func := "unravel/unravellaw04.DowkerOf", spec := "dowkerOf", unfollowed := true, recurses := true, apart := false }
def DowkerOfSaid : Prop := dowkerOfRow.holds Try.pinned (OpenSpec.ofChange dowkerOfSpec)

/-- ITS FALSE NEIGHBOUR: 'it returns false'. Refute it at one input. -/
def dowkerOfWrong : ChangeSpec := { name := "dowkerOf", fn := fun _ => fun
  | [d] => { results := [.lit (.bool false)], args := [d] }
  | _ => none }
def DowkerOfWrongFalsely : Prop := dowkerOfRow.holds Try.pinned (OpenSpec.ofChange dowkerOfWrong)

/-- 'unravellaw04.DowkerValid': WHATEVER THE INPUT: true; the input reads as it did. -/
def dowkerValidSpec : ChangeSpec := { name := "dowkerValid", fn := fun _ => fun
  | [d] => { results := [.lit (.bool true)], args := [d] }
  | _ => none }
def dowkerValidRow : OpenClaim := { program := "ytooafhbjbpaacaa", sum := "6869c1563eaef3a3ecd4e47431cd7c09ef28cd0fbf8b03a3a6d36386e43d0980", func := "unravel/unravellaw04.DowkerValid", spec := "dowkerValid", unfollowed := true, recurses := true, apart := false }
def DowkerValidSaid : Prop := dowkerValidRow.holds Try.pinned (OpenSpec.ofChange dowkerValidSpec)

/-- ITS FALSE NEIGHBOUR: 'it returns false'. Refute it at one input. -/
def dowkerValidWrong : ChangeSpec := { name := "dowkerValid", fn := fun _ => fun
  | [d] => { results := [.lit (.bool false)], args := [d] }
  | _ => none }
def DowkerValidWrongFalsely : Prop := dowkerValidRow.holds Try.pinned (OpenSpec.ofChange dowkerValidWrong)

/-- 'unravellaw04.DowkerDraws': WHATEVER THE INPUT: true; the input reads as it did. -/
def dowkerDrawsSpec : ChangeSpec := { name := "dowkerDraws", fn := fun _ => fun
  | [d] => { results := [.lit (.bool true)], args := [d] }
  | _ => none }
def dowkerDrawsRow : OpenClaim := { program := "ytooafhbjbpaacaa", sum := "6869c1563eaef3a3ecd4e47431cd7c09ef28cd0fbf8b03a3a6d36386e43d0980", func := "unravel/unravellaw04.DowkerDraws", spec := "dowkerDraws", unfollowed := true, recurses := true, apart := false }
def DowkerDrawsSaid : Prop := dowkerDrawsRow.holds Try.pinned (OpenSpec.ofChange dowkerDrawsSpec)

/-- ITS FALSE NEIGHBOUR: 'it returns false'. Refute it at one input. -/
def dowkerDrawsWrong : ChangeSpec := { name := "dowkerDraws", fn := fun _ => fun
  | [d] => { results := [.lit (.bool false)], args := [d] }
  | _ => none }
def DowkerDrawsWrongFalsely : Prop := dowkerDrawsRow.holds Try.pinned (OpenSpec.ofChange dowkerDrawsWrong)

/-- 'unravellaw04.DowkerBack': WHATEVER THE INPUT: true; the input reads as it did. -/
def dowkerBackSpec : ChangeSpec := { name := "dowkerBack", fn := fun _ => fun
  | [d] => { results := [.lit (.bool true)], args := [d] }
  | _ => none }
def dowkerBackRow : OpenClaim := { program := "ytooafhbjbpaacaa", sum := "6869c1563eaef3a3ecd4e47431cd7c09ef28cd0fbf8b03a3a6d36386e43d0980", func := "unravel/unravellaw04.DowkerBack", spec := "dowkerBack", unfollowed := true, recurses := true, apart := false }
def DowkerBackSaid : Prop := dowkerBackRow.holds Try.pinned (OpenSpec.ofChange dowkerBackSpec)

/-- ITS FALSE NEIGHBOUR: 'it returns false'. Refute it at one input. -/
def dowkerBackWrong : ChangeSpec := { name := "dowkerBack", fn := fun _ => fun
  | [d] => { results := [.lit (.bool false)], args := [d] }
  | _ => none }
def DowkerBackWrongFalsely : Prop := dowkerBackRow.holds Try.pinned (OpenSpec.ofChange dowkerBackWrong)

/-- 'unravellaw04.DowkerOvers': WHATEVER THE INPUT: true; the input reads as it did. -/
def dowkerOversSpec : ChangeSpec := { name := "dowkerOvers", fn := fun _ => fun
  | [d1, d2] => { results := [.lit (.bool true)], args := [d1, d2] }
  | _ => none }
def dowkerOversRow : OpenClaim := { program := "ytooafhbjbpaacaa", sum := "6869c1563eaef3a3ecd4e47431cd7c09ef28cd0fbf8b03a3a6d36386e43d0980", func := "unravel/unravellaw04.DowkerOvers", spec := "dowkerOvers", unfollowed := true, recurses := true, apart := false }
def DowkerOversSaid : Prop := dowkerOversRow.holds Try.pinned (OpenSpec.ofChange dowkerOversSpec)

/-- ITS FALSE NEIGHBOUR: 'it returns false'. Refute it at one input. -/
def dowkerOversWrong : ChangeSpec := { name := "dowkerOvers", fn := fun _ => fun
  | [d1, d2] => { results := [.lit (.bool false)], args := [d1, d2] }
  | _ => none }
def DowkerOversWrongFalsely : Prop := dowkerOversRow.holds Try.pinned (OpenSpec.ofChange dowkerOversWrong)

/-- 'unravellaw04.DowkerShifts': WHATEVER THE INPUT: true; the input reads as it did. -/
def dowkerShiftsSpec : ChangeSpec := { name := "dowkerShifts", fn := fun _ => fun
  | [d] => { results := [.lit (.bool true)], args := [d] }
  | _ => none }
def dowkerShiftsRow : OpenClaim := { program := "ytooafhbjbpaacaa", sum := "6869c1563eaef3a3ecd4e47431cd7c09ef28cd0fbf8b03a3a6d36386e43d0980", func := "unravel/unravellaw04.DowkerShifts", spec := "dowkerShifts", unfollowed := true, recurses := true, apart := false }
def DowkerShiftsSaid : Prop := dowkerShiftsRow.holds Try.pinned (OpenSpec.ofChange dowkerShiftsSpec)

/-- ITS FALSE NEIGHBOUR: 'it returns false'. Refute it at one input. -/
def dowkerShiftsWrong : ChangeSpec := { name := "dowkerShifts", fn := fun _ => fun
  | [d] => { results := [.lit (.bool false)], args := [d] }
  | _ => none }
def DowkerShiftsWrongFalsely : Prop := dowkerShiftsRow.holds Try.pinned (OpenSpec.ofChange dowkerShiftsWrong)

/-- 'unravellaw04.DowkerPlanar': WHATEVER THE INPUT: true; the input reads as it did. -/
def dowkerPlanarSpec : ChangeSpec := { name := "dowkerPlanar", fn := fun _ => fun
  | [d] => { results := [.lit (.bool true)], args := [d] }
  | _ => none }
def dowkerPlanarRow : OpenClaim := { program := "ytooafhbjbpaacaa", sum := "6869c1563eaef3a3ecd4e47431cd7c09ef28cd0fbf8b03a3a6d36386e43d0980", func := "unravel/unravellaw04.DowkerPlanar", spec := "dowkerPlanar", unfollowed := true, recurses := true, apart := false }
def DowkerPlanarSaid : Prop := dowkerPlanarRow.holds Try.pinned (OpenSpec.ofChange dowkerPlanarSpec)

/-- ITS FALSE NEIGHBOUR: 'it returns false'. Refute it at one input. -/
def dowkerPlanarWrong : ChangeSpec := { name := "dowkerPlanar", fn := fun _ => fun
  | [d] => { results := [.lit (.bool false)], args := [d] }
  | _ => none }
def DowkerPlanarWrongFalsely : Prop := dowkerPlanarRow.holds Try.pinned (OpenSpec.ofChange dowkerPlanarWrong)

/- THE SECOND FORM. 'bulk': how many values and letters a reading holds, each counted each time it is reached (what is shared counts as often as it is met; a slice's spare places count too). A statement '..UptoSaid' is the law's where the arguments, and the package variables that the reading takes, are together of bulk at most 1048576: NARROWER than '..Said'. Prove '..Said' where nothing that the law and all that it calls make is longer than what came in: it says more and counts as full. Else prove '..UptoSaid'. A law counts once. -/
mutual
def uptoBulk {H : Type} : DataW H → Nat
  | .lit (.string bytes) => bytes.length + 1
  | .lit _ => 1
  | .nil => 1
  | .ptr d => uptoBulk d + 1
  | .slice elems spare => uptoBulkAll elems + uptoBulkAll spare + 1
  | .agg parts => uptoBulkAll parts + 1
  | .iface _ d => uptoBulk d + 1
  | .map entries => uptoBulkEntries entries + 1
  | .held _ => 1
def uptoBulkAll {H : Type} : List (DataW H) → Nat
  | [] => 0
  | d :: r => uptoBulk d + uptoBulkAll r
def uptoBulkEntries {H : Type} : List (Lit × DataW H) → Nat
  | [] => 0
  | x :: r => uptoBulkEntry x + uptoBulkEntries r
def uptoBulkEntry {H : Type} : Lit × DataW H → Nat
  | (.string bytes, d) => bytes.length + uptoBulk d + 1
  | (_, d) => uptoBulk d + 1
 end
def uptoSmall : (H : Type) → List (DataW H) → Bool := fun _ ds => decide (uptoBulkAll ds ≤ 1048576)
def OpenSpec.upto (s : _root_.Go.ChangeSpec) : _root_.Go.OpenSpec := { _root_.Go.OpenSpec.ofChange s with cond := some uptoSmall }

/-- 'unravellaw04.DowkerOf', WHERE WHAT IT READS IS OF BULK AT MOST 1048576: true; the input reads as it did. -/
def dowkerOfUptoRow : OpenClaim := { program := "ytooafhbjbpaacaa", sum := "6869c1563eaef3a3ecd4e47431cd7c09ef28cd0fbf8b03a3a6d36386e43d0980", func := "unravel/unravellaw04.DowkerOf", spec := "dowkerOf", unfollowed := true, recurses := true, apart := false, narrowed := true }
def DowkerOfUptoSaid : Prop := dowkerOfUptoRow.holds Try.pinned (OpenSpec.upto dowkerOfSpec)

/-- 'unravellaw04.DowkerValid', WHERE WHAT IT READS IS OF BULK AT MOST 1048576: true; the input reads as it did. -/
def dowkerValidUptoRow : OpenClaim := { program := "ytooafhbjbpaacaa", sum := "6869c1563eaef3a3ecd4e47431cd7c09ef28cd0fbf8b03a3a6d36386e43d0980", func := "unravel/unravellaw04.DowkerValid", spec := "dowkerValid", unfollowed := true, recurses := true, apart := false, narrowed := true }
def DowkerValidUptoSaid : Prop := dowkerValidUptoRow.holds Try.pinned (OpenSpec.upto dowkerValidSpec)

/-- 'unravellaw04.DowkerDraws', WHERE WHAT IT READS IS OF BULK AT MOST 1048576: true; the input reads as it did. -/
def dowkerDrawsUptoRow : OpenClaim := { program := "ytooafhbjbpaacaa", sum := "6869c1563eaef3a3ecd4e47431cd7c09ef28cd0fbf8b03a3a6d36386e43d0980", func := "unravel/unravellaw04.DowkerDraws", spec := "dowkerDraws", unfollowed := true, recurses := true, apart := false, narrowed := true }
def DowkerDrawsUptoSaid : Prop := dowkerDrawsUptoRow.holds Try.pinned (OpenSpec.upto dowkerDrawsSpec)

/-- 'unravellaw04.DowkerBack', WHERE WHAT IT READS IS OF BULK AT MOST 1048576: true; the input reads as it did. -/
def dowkerBackUptoRow : OpenClaim := { program := "ytooafhbjbpaacaa", sum := "6869c1563eaef3a3ecd4e47431cd7c09ef28cd0fbf8b03a3a6d36386e43d0980", func := "unravel/unravellaw04.DowkerBack", spec := "dowkerBack", unfollowed := true, recurses := true, apart := false, narrowed := true }
def DowkerBackUptoSaid : Prop := dowkerBackUptoRow.holds Try.pinned (OpenSpec.upto dowkerBackSpec)

/-- 'unravellaw04.DowkerOvers', WHERE WHAT IT READS IS OF BULK AT MOST 1048576: true; the input reads as it did. -/
def dowkerOversUptoRow : OpenClaim := { program := "ytooafhbjbpaacaa", sum := "6869c1563eaef3a3ecd4e47431cd7c09ef28cd0fbf8b03a3a6d36386e43d0980", func := "unravel/unravellaw04.DowkerOvers", spec := "dowkerOvers", unfollowed := true, recurses := true, apart := false, narrowed := true }
def DowkerOversUptoSaid : Prop := dowkerOversUptoRow.holds Try.pinned (OpenSpec.upto dowkerOversSpec)

/-- 'unravellaw04.DowkerShifts', WHERE WHAT IT READS IS OF BULK AT MOST 1048576: true; the input reads as it did. -/
def dowkerShiftsUptoRow : OpenClaim := { program := "ytooafhbjbpaacaa", sum := "6869c1563eaef3a3ecd4e47431cd7c09ef28cd0fbf8b03a3a6d36386e43d0980", func := "unravel/unravellaw04.DowkerShifts", spec := "dowkerShifts", unfollowed := true, recurses := true, apart := false, narrowed := true }
def DowkerShiftsUptoSaid : Prop := dowkerShiftsUptoRow.holds Try.pinned (OpenSpec.upto dowkerShiftsSpec)

/-- 'unravellaw04.DowkerPlanar', WHERE WHAT IT READS IS OF BULK AT MOST 1048576: true; the input reads as it did. -/
def dowkerPlanarUptoRow : OpenClaim := { program := "ytooafhbjbpaacaa", sum := "6869c1563eaef3a3ecd4e47431cd7c09ef28cd0fbf8b03a3a6d36386e43d0980", func := "unravel/unravellaw04.DowkerPlanar", spec := "dowkerPlanar", unfollowed := true, recurses := true, apart := false, narrowed := true }
def DowkerPlanarUptoSaid : Prop := dowkerPlanarUptoRow.holds Try.pinned (OpenSpec.upto dowkerPlanarSpec)

end Rows
end Go.Proofs.Ytooafhbjbpaacaa
