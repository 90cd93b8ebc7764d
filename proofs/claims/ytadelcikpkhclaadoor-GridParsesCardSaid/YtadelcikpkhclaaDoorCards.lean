/-
  DERIVED. GIVEN WITH THE SEED: THE CARDS: each row of YtadelcikpkhclaaDoorRows.lean that lists a variable, with what it lists TIED to the program's text (the seventh form; the later family's looks); each row that meets fmt, with fmt's text TOLD by the authors' own Lean function (tested against real Go, not proved from fmt's source: count such statements apart). THE CARD IS WHAT COUNTS. Prove the row's statement (the work); the ties are given (YtadelcikpkhclaaDoorTie.lean); close each card by the builder's one call (the guide's Derived/Test/ToyasCard.lean, 'card_holds'). Laid BY PROGRAM, IN A SANDBOX (cutbox-door.mjs). By AI agents, Wed Nov 11 2026. No macro, syntax, notation, axiom, sorry.
-/
import Derived.Test.YtadelcikpkhclaaDoorRows
import GoSem.ClaimSeven
namespace Go.Proofs.YtadelcikpkhclaaDoor
namespace Rows

/-- THE TIED CARD OF 'unravellaw42.GridTells'. -/
def gridTellsCard : Claim7 := { stood := { row := gridTellsRow, standIns := [], harness := (true, "a71228dcc935bcb7224a812824cb1eb1bdf1c25b860eecf8f5db6349c00a5b10"), looks := true }, kinds := [], alts := [], laidByText := true, laidKinds := [.data, .data, .data], laidTests := true, laidLooks := .later }
def GridTellsCardSaid : Prop := Claim7.holds Tryd.pinned (.plain (OpenSpec.ofChange gridTellsSpec)) gridTellsCard

/-- THE TIED CARD OF 'unravellaw42.GridCrosses'. -/
def gridCrossesCard : Claim7 := { stood := { row := gridCrossesRow, standIns := [], harness := (true, "a71228dcc935bcb7224a812824cb1eb1bdf1c25b860eecf8f5db6349c00a5b10"), looks := true }, kinds := [], alts := [], laidByText := true, laidKinds := [.data, .data, .data], laidTests := true, laidLooks := .later }
def GridCrossesCardSaid : Prop := Claim7.holds Tryd.pinned (.plain (OpenSpec.ofChange gridCrossesSpec)) gridCrossesCard

/-- THE TIED CARD OF 'unravellaw42.GridRotates'. -/
def gridRotatesCard : Claim7 := { stood := { row := gridRotatesRow, standIns := [], harness := (true, "a71228dcc935bcb7224a812824cb1eb1bdf1c25b860eecf8f5db6349c00a5b10"), looks := true }, kinds := [], alts := [], laidByText := true, laidKinds := [.data, .data, .data], laidTests := true, laidLooks := .later }
def GridRotatesCardSaid : Prop := Claim7.holds Tryd.pinned (.plain (OpenSpec.ofChange gridRotatesSpec)) gridRotatesCard

/-- THE TIED CARD OF 'unravellaw42.GridShifts'. -/
def gridShiftsCard : Claim7 := { stood := { row := gridShiftsRow, standIns := [], harness := (true, "a71228dcc935bcb7224a812824cb1eb1bdf1c25b860eecf8f5db6349c00a5b10"), looks := true }, kinds := [], alts := [], laidByText := true, laidKinds := [.data, .data, .data], laidTests := true, laidLooks := .later }
def GridShiftsCardSaid : Prop := Claim7.holds Tryd.pinned (.plain (OpenSpec.ofChange gridShiftsSpec)) gridShiftsCard

/-- THE TIED CARD OF 'unravellaw42.GridLeast'. -/
def gridLeastCard : Claim7 := { stood := { row := gridLeastRow, standIns := [], harness := (true, "a71228dcc935bcb7224a812824cb1eb1bdf1c25b860eecf8f5db6349c00a5b10"), looks := true }, kinds := [], alts := [], laidByText := true, laidKinds := [.data, .data, .data], laidTests := true, laidLooks := .later }
def GridLeastCardSaid : Prop := Claim7.holds Tryd.pinned (.plain (OpenSpec.ofChange gridLeastSpec)) gridLeastCard

/-- THE TIED CARD OF 'unravellaw42.GridTurns'. -/
def gridTurnsCard : Claim7 := { stood := { row := gridTurnsRow, standIns := [], harness := (true, "a71228dcc935bcb7224a812824cb1eb1bdf1c25b860eecf8f5db6349c00a5b10"), looks := true }, kinds := [], alts := [], laidByText := true, laidKinds := [.data, .data, .data], laidTests := true, laidLooks := .later }
def GridTurnsCardSaid : Prop := Claim7.holds Tryd.pinned (.plain (OpenSpec.ofChange gridTurnsSpec)) gridTurnsCard

/-- THE TIED CARD OF 'unravellaw42.GridText'. -/
def gridTextCard : Claim7 := { stood := { row := gridTextRow, standIns := [], harness := (true, "a71228dcc935bcb7224a812824cb1eb1bdf1c25b860eecf8f5db6349c00a5b10"), looks := true }, kinds := [], alts := [], laidByText := true, laidKinds := [.data, .data, .data, .data, .sentinel, .sentinel, .pinned], laidTests := true, laidLooks := .later }
def GridTextCardSaid : Prop := Claim7.holds Tryd.pinned (.plain (OpenSpec.ofChange gridTextSpec)) gridTextCard

/-- THE TIED CARD OF 'unravellaw42.GridParses'. -/
def gridParsesCard : Claim7 := { stood := { row := gridParsesRow, standIns := [], harness := (true, "a71228dcc935bcb7224a812824cb1eb1bdf1c25b860eecf8f5db6349c00a5b10"), looks := true }, kinds := [], alts := [], laidByText := true, laidKinds := [.data, .data, .data, .data, .sentinel, .sentinel, .pinned], laidTests := true, laidLooks := .later }
def GridParsesCardSaid : Prop := Claim7.holds Tryd.pinned (.plain (OpenSpec.ofChange gridParsesSpec)) gridParsesCard

/-- THE SECOND FORM's CARD OF 'unravellaw42.GridTells'. -/
def gridTellsUptoCard : Claim7 := { stood := { row := gridTellsUptoRow, standIns := [], harness := (true, "a71228dcc935bcb7224a812824cb1eb1bdf1c25b860eecf8f5db6349c00a5b10"), looks := true }, kinds := [], alts := [], laidByText := true, laidKinds := [.data, .data, .data], laidTests := true, laidLooks := .later }
def GridTellsUptoCardSaid : Prop := Claim7.holds Tryd.pinned (.plain (OpenSpec.upto gridTellsSpec)) gridTellsUptoCard

/-- THE SECOND FORM's CARD OF 'unravellaw42.GridCrosses'. -/
def gridCrossesUptoCard : Claim7 := { stood := { row := gridCrossesUptoRow, standIns := [], harness := (true, "a71228dcc935bcb7224a812824cb1eb1bdf1c25b860eecf8f5db6349c00a5b10"), looks := true }, kinds := [], alts := [], laidByText := true, laidKinds := [.data, .data, .data], laidTests := true, laidLooks := .later }
def GridCrossesUptoCardSaid : Prop := Claim7.holds Tryd.pinned (.plain (OpenSpec.upto gridCrossesSpec)) gridCrossesUptoCard

/-- THE SECOND FORM's CARD OF 'unravellaw42.GridRotates'. -/
def gridRotatesUptoCard : Claim7 := { stood := { row := gridRotatesUptoRow, standIns := [], harness := (true, "a71228dcc935bcb7224a812824cb1eb1bdf1c25b860eecf8f5db6349c00a5b10"), looks := true }, kinds := [], alts := [], laidByText := true, laidKinds := [.data, .data, .data], laidTests := true, laidLooks := .later }
def GridRotatesUptoCardSaid : Prop := Claim7.holds Tryd.pinned (.plain (OpenSpec.upto gridRotatesSpec)) gridRotatesUptoCard

/-- THE SECOND FORM's CARD OF 'unravellaw42.GridShifts'. -/
def gridShiftsUptoCard : Claim7 := { stood := { row := gridShiftsUptoRow, standIns := [], harness := (true, "a71228dcc935bcb7224a812824cb1eb1bdf1c25b860eecf8f5db6349c00a5b10"), looks := true }, kinds := [], alts := [], laidByText := true, laidKinds := [.data, .data, .data], laidTests := true, laidLooks := .later }
def GridShiftsUptoCardSaid : Prop := Claim7.holds Tryd.pinned (.plain (OpenSpec.upto gridShiftsSpec)) gridShiftsUptoCard

/-- THE SECOND FORM's CARD OF 'unravellaw42.GridLeast'. -/
def gridLeastUptoCard : Claim7 := { stood := { row := gridLeastUptoRow, standIns := [], harness := (true, "a71228dcc935bcb7224a812824cb1eb1bdf1c25b860eecf8f5db6349c00a5b10"), looks := true }, kinds := [], alts := [], laidByText := true, laidKinds := [.data, .data, .data], laidTests := true, laidLooks := .later }
def GridLeastUptoCardSaid : Prop := Claim7.holds Tryd.pinned (.plain (OpenSpec.upto gridLeastSpec)) gridLeastUptoCard

/-- THE SECOND FORM's CARD OF 'unravellaw42.GridTurns'. -/
def gridTurnsUptoCard : Claim7 := { stood := { row := gridTurnsUptoRow, standIns := [], harness := (true, "a71228dcc935bcb7224a812824cb1eb1bdf1c25b860eecf8f5db6349c00a5b10"), looks := true }, kinds := [], alts := [], laidByText := true, laidKinds := [.data, .data, .data], laidTests := true, laidLooks := .later }
def GridTurnsUptoCardSaid : Prop := Claim7.holds Tryd.pinned (.plain (OpenSpec.upto gridTurnsSpec)) gridTurnsUptoCard

/-- THE SECOND FORM's CARD OF 'unravellaw42.GridText'. -/
def gridTextUptoCard : Claim7 := { stood := { row := gridTextUptoRow, standIns := [], harness := (true, "a71228dcc935bcb7224a812824cb1eb1bdf1c25b860eecf8f5db6349c00a5b10"), looks := true }, kinds := [], alts := [], laidByText := true, laidKinds := [.data, .data, .data, .data, .sentinel, .sentinel, .pinned], laidTests := true, laidLooks := .later }
def GridTextUptoCardSaid : Prop := Claim7.holds Tryd.pinned (.plain (OpenSpec.upto gridTextSpec)) gridTextUptoCard

/-- THE SECOND FORM's CARD OF 'unravellaw42.GridParses'. -/
def gridParsesUptoCard : Claim7 := { stood := { row := gridParsesUptoRow, standIns := [], harness := (true, "a71228dcc935bcb7224a812824cb1eb1bdf1c25b860eecf8f5db6349c00a5b10"), looks := true }, kinds := [], alts := [], laidByText := true, laidKinds := [.data, .data, .data, .data, .sentinel, .sentinel, .pinned], laidTests := true, laidLooks := .later }
def GridParsesUptoCardSaid : Prop := Claim7.holds Tryd.pinned (.plain (OpenSpec.upto gridParsesSpec)) gridParsesUptoCard
end Rows
end Go.Proofs.YtadelcikpkhclaaDoor
