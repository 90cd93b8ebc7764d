/-
  DERIVED. GIVEN WITH THE SEED: THE CARDS: each row of YtjmapbmdfbdomaaDoorRows.lean that lists a variable, with what it lists TIED to the program's text (the seventh form; the later family's looks); each row that meets fmt, with fmt's text TOLD by the authors' own Lean function (tested against real Go, not proved from fmt's source: count such statements apart). THE CARD IS WHAT COUNTS. Prove the row's statement (the work); the ties are given (YtjmapbmdfbdomaaDoorTie.lean); close each card by the builder's one call (the guide's Derived/Test/ToyasCard.lean, 'card_holds'). Laid BY PROGRAM, IN A SANDBOX (cutbox-door.mjs). By AI agents, Wed Nov 11 2026. No macro, syntax, notation, axiom, sorry.
-/
import Derived.Test.YtjmapbmdfbdomaaDoorRows
import GoSem.ClaimSeven
namespace Go.Proofs.YtjmapbmdfbdomaaDoor
namespace Rows

/-- THE TIED CARD OF 'unravellaw02.GaussText'. -/
def gaussTextCard : Claim7 := { stood := { row := gaussTextRow, standIns := [], harness := (true, "c21f9b758069050389d8b7327da689bc2aa5ddf4aa7b116fa2aeeb86f3395bf9"), looks := true }, kinds := [], alts := [], laidByText := true, laidKinds := [.data, .data, .data, .sentinel, .sentinel, .listed, .data], laidTests := true, laidLooks := .later }
def GaussTextCardSaid : Prop := Claim7.holds Tryd.pinned (.plain (OpenSpec.ofChange gaussTextSpec)) gaussTextCard

/-- THE TIED CARD OF 'unravellaw02.GaussParses'. -/
def gaussParsesCard : Claim7 := { stood := { row := gaussParsesRow, standIns := [], harness := (true, "c21f9b758069050389d8b7327da689bc2aa5ddf4aa7b116fa2aeeb86f3395bf9"), looks := true }, kinds := [], alts := [], laidByText := true, laidKinds := [.data, .data, .data, .sentinel, .sentinel, .listed, .data], laidTests := true, laidLooks := .later }
def GaussParsesCardSaid : Prop := Claim7.holds Tryd.pinned (.plain (OpenSpec.ofChange gaussParsesSpec)) gaussParsesCard

/-- THE TIED CARD OF 'unravellaw02.GaussFixed'. -/
def gaussFixedCard : Claim7 := { stood := { row := gaussFixedRow, standIns := [], harness := (true, "c21f9b758069050389d8b7327da689bc2aa5ddf4aa7b116fa2aeeb86f3395bf9"), looks := true }, kinds := [], alts := [], laidByText := true, laidKinds := [.data, .data, .data, .sentinel, .sentinel, .listed, .data], laidTests := true, laidLooks := .later }
def GaussFixedCardSaid : Prop := Claim7.holds Tryd.pinned (.plain (OpenSpec.ofChange gaussFixedSpec)) gaussFixedCard

/-- THE SECOND FORM's CARD OF 'unravellaw02.GaussText'. -/
def gaussTextUptoCard : Claim7 := { stood := { row := gaussTextUptoRow, standIns := [], harness := (true, "c21f9b758069050389d8b7327da689bc2aa5ddf4aa7b116fa2aeeb86f3395bf9"), looks := true }, kinds := [], alts := [], laidByText := true, laidKinds := [.data, .data, .data, .sentinel, .sentinel, .listed, .data], laidTests := true, laidLooks := .later }
def GaussTextUptoCardSaid : Prop := Claim7.holds Tryd.pinned (.plain (OpenSpec.upto gaussTextSpec)) gaussTextUptoCard

/-- THE SECOND FORM's CARD OF 'unravellaw02.GaussParses'. -/
def gaussParsesUptoCard : Claim7 := { stood := { row := gaussParsesUptoRow, standIns := [], harness := (true, "c21f9b758069050389d8b7327da689bc2aa5ddf4aa7b116fa2aeeb86f3395bf9"), looks := true }, kinds := [], alts := [], laidByText := true, laidKinds := [.data, .data, .data, .sentinel, .sentinel, .listed, .data], laidTests := true, laidLooks := .later }
def GaussParsesUptoCardSaid : Prop := Claim7.holds Tryd.pinned (.plain (OpenSpec.upto gaussParsesSpec)) gaussParsesUptoCard

/-- THE SECOND FORM's CARD OF 'unravellaw02.GaussFixed'. -/
def gaussFixedUptoCard : Claim7 := { stood := { row := gaussFixedUptoRow, standIns := [], harness := (true, "c21f9b758069050389d8b7327da689bc2aa5ddf4aa7b116fa2aeeb86f3395bf9"), looks := true }, kinds := [], alts := [], laidByText := true, laidKinds := [.data, .data, .data, .sentinel, .sentinel, .listed, .data], laidTests := true, laidLooks := .later }
def GaussFixedUptoCardSaid : Prop := Claim7.holds Tryd.pinned (.plain (OpenSpec.upto gaussFixedSpec)) gaussFixedUptoCard
end Rows
end Go.Proofs.YtjmapbmdfbdomaaDoor
