/-
  DERIVED. GIVEN WITH THE SEED: THE CARDS: each row of YtleoalcbgpjieaaDoorRows.lean that lists a variable, with what it lists TIED to the program's text (the seventh form; the later family's looks); each row that meets fmt, with fmt's text TOLD by the authors' own Lean function (tested against real Go, not proved from fmt's source: count such statements apart). THE CARD IS WHAT COUNTS. Prove the row's statement (the work); the ties are given (YtleoalcbgpjieaaDoorTie.lean); close each card by the builder's one call (the guide's Derived/Test/ToyasCard.lean, 'card_holds'). Laid BY PROGRAM, IN A SANDBOX (cutbox-door.mjs). By AI agents, Wed Nov 11 2026. No macro, syntax, notation, axiom, sorry.
-/
import Derived.Test.YtleoalcbgpjieaaDoorRows
import GoSem.ClaimSeven
namespace Go.Proofs.YtleoalcbgpjieaaDoor
namespace Rows

/-- THE TIED CARD OF 'unravellaw02.GaussOf'. -/
def gaussOfCard : Claim7 := { stood := { row := gaussOfRow, standIns := [], harness := (true, "8ded6d569e1281e0b432471e96f86a6db5a4f11fa42ba9e786882e8210787dc3"), looks := true }, kinds := [], alts := [], laidByText := true, laidKinds := [.data, .data, .data, .sentinel, .sentinel, .listed, .data], laidTests := true, laidLooks := .later }
def GaussOfCardSaid : Prop := Claim7.holds Tryd.pinned (.plain (OpenSpec.ofChange gaussOfSpec)) gaussOfCard

/-- THE TIED CARD OF 'unravellaw02.GaussSwitches'. -/
def gaussSwitchesCard : Claim7 := { stood := { row := gaussSwitchesRow, standIns := [], harness := (true, "8ded6d569e1281e0b432471e96f86a6db5a4f11fa42ba9e786882e8210787dc3"), looks := true }, kinds := [], alts := [], laidByText := true, laidKinds := [.data, .data, .data, .sentinel, .sentinel, .listed, .data], laidTests := true, laidLooks := .later }
def GaussSwitchesCardSaid : Prop := Claim7.holds Tryd.pinned (.plain (OpenSpec.ofChange gaussSwitchesSpec)) gaussSwitchesCard

/-- THE TIED CARD OF 'unravellaw02.GaussEven'. -/
def gaussEvenCard : Claim7 := { stood := { row := gaussEvenRow, standIns := [], harness := (true, "8ded6d569e1281e0b432471e96f86a6db5a4f11fa42ba9e786882e8210787dc3"), looks := true }, kinds := [], alts := [], laidByText := true, laidKinds := [.data, .data, .data, .sentinel, .sentinel, .listed, .data], laidTests := true, laidLooks := .later }
def GaussEvenCardSaid : Prop := Claim7.holds Tryd.pinned (.plain (OpenSpec.ofChange gaussEvenSpec)) gaussEvenCard

/-- THE TIED CARD OF 'unravellaw02.GaussDraws'. -/
def gaussDrawsCard : Claim7 := { stood := { row := gaussDrawsRow, standIns := [], harness := (true, "8ded6d569e1281e0b432471e96f86a6db5a4f11fa42ba9e786882e8210787dc3"), looks := true }, kinds := [], alts := [], laidByText := true, laidKinds := [.data, .data, .data, .sentinel, .sentinel, .listed, .data], laidTests := true, laidLooks := .later }
def GaussDrawsCardSaid : Prop := Claim7.holds Tryd.pinned (.plain (OpenSpec.ofChange gaussDrawsSpec)) gaussDrawsCard

/-- THE TIED CARD OF 'unravellaw02.GaussReturns'. -/
def gaussReturnsCard : Claim7 := { stood := { row := gaussReturnsRow, standIns := [], harness := (true, "8ded6d569e1281e0b432471e96f86a6db5a4f11fa42ba9e786882e8210787dc3"), looks := true }, kinds := [], alts := [], laidByText := true, laidKinds := [.data, .data, .data, .sentinel, .sentinel, .listed, .data], laidTests := true, laidLooks := .later }
def GaussReturnsCardSaid : Prop := Claim7.holds Tryd.pinned (.plain (OpenSpec.ofChange gaussReturnsSpec)) gaussReturnsCard

/-- THE TIED CARD OF 'unravellaw02.GaussShuffles'. -/
def gaussShufflesCard : Claim7 := { stood := { row := gaussShufflesRow, standIns := [], harness := (true, "8ded6d569e1281e0b432471e96f86a6db5a4f11fa42ba9e786882e8210787dc3"), looks := true }, kinds := [], alts := [], laidByText := true, laidKinds := [.data, .data, .data, .sentinel, .sentinel, .listed, .data], laidTests := true, laidLooks := .later }
def GaussShufflesCardSaid : Prop := Claim7.holds Tryd.pinned (.plain (OpenSpec.ofChange gaussShufflesSpec)) gaussShufflesCard

/-- THE SECOND FORM's CARD OF 'unravellaw02.GaussOf'. -/
def gaussOfUptoCard : Claim7 := { stood := { row := gaussOfUptoRow, standIns := [], harness := (true, "8ded6d569e1281e0b432471e96f86a6db5a4f11fa42ba9e786882e8210787dc3"), looks := true }, kinds := [], alts := [], laidByText := true, laidKinds := [.data, .data, .data, .sentinel, .sentinel, .listed, .data], laidTests := true, laidLooks := .later }
def GaussOfUptoCardSaid : Prop := Claim7.holds Tryd.pinned (.plain (OpenSpec.upto gaussOfSpec)) gaussOfUptoCard

/-- THE SECOND FORM's CARD OF 'unravellaw02.GaussSwitches'. -/
def gaussSwitchesUptoCard : Claim7 := { stood := { row := gaussSwitchesUptoRow, standIns := [], harness := (true, "8ded6d569e1281e0b432471e96f86a6db5a4f11fa42ba9e786882e8210787dc3"), looks := true }, kinds := [], alts := [], laidByText := true, laidKinds := [.data, .data, .data, .sentinel, .sentinel, .listed, .data], laidTests := true, laidLooks := .later }
def GaussSwitchesUptoCardSaid : Prop := Claim7.holds Tryd.pinned (.plain (OpenSpec.upto gaussSwitchesSpec)) gaussSwitchesUptoCard

/-- THE SECOND FORM's CARD OF 'unravellaw02.GaussEven'. -/
def gaussEvenUptoCard : Claim7 := { stood := { row := gaussEvenUptoRow, standIns := [], harness := (true, "8ded6d569e1281e0b432471e96f86a6db5a4f11fa42ba9e786882e8210787dc3"), looks := true }, kinds := [], alts := [], laidByText := true, laidKinds := [.data, .data, .data, .sentinel, .sentinel, .listed, .data], laidTests := true, laidLooks := .later }
def GaussEvenUptoCardSaid : Prop := Claim7.holds Tryd.pinned (.plain (OpenSpec.upto gaussEvenSpec)) gaussEvenUptoCard

/-- THE SECOND FORM's CARD OF 'unravellaw02.GaussDraws'. -/
def gaussDrawsUptoCard : Claim7 := { stood := { row := gaussDrawsUptoRow, standIns := [], harness := (true, "8ded6d569e1281e0b432471e96f86a6db5a4f11fa42ba9e786882e8210787dc3"), looks := true }, kinds := [], alts := [], laidByText := true, laidKinds := [.data, .data, .data, .sentinel, .sentinel, .listed, .data], laidTests := true, laidLooks := .later }
def GaussDrawsUptoCardSaid : Prop := Claim7.holds Tryd.pinned (.plain (OpenSpec.upto gaussDrawsSpec)) gaussDrawsUptoCard

/-- THE SECOND FORM's CARD OF 'unravellaw02.GaussReturns'. -/
def gaussReturnsUptoCard : Claim7 := { stood := { row := gaussReturnsUptoRow, standIns := [], harness := (true, "8ded6d569e1281e0b432471e96f86a6db5a4f11fa42ba9e786882e8210787dc3"), looks := true }, kinds := [], alts := [], laidByText := true, laidKinds := [.data, .data, .data, .sentinel, .sentinel, .listed, .data], laidTests := true, laidLooks := .later }
def GaussReturnsUptoCardSaid : Prop := Claim7.holds Tryd.pinned (.plain (OpenSpec.upto gaussReturnsSpec)) gaussReturnsUptoCard

/-- THE SECOND FORM's CARD OF 'unravellaw02.GaussShuffles'. -/
def gaussShufflesUptoCard : Claim7 := { stood := { row := gaussShufflesUptoRow, standIns := [], harness := (true, "8ded6d569e1281e0b432471e96f86a6db5a4f11fa42ba9e786882e8210787dc3"), looks := true }, kinds := [], alts := [], laidByText := true, laidKinds := [.data, .data, .data, .sentinel, .sentinel, .listed, .data], laidTests := true, laidLooks := .later }
def GaussShufflesUptoCardSaid : Prop := Claim7.holds Tryd.pinned (.plain (OpenSpec.upto gaussShufflesSpec)) gaussShufflesUptoCard
end Rows
end Go.Proofs.YtleoalcbgpjieaaDoor
