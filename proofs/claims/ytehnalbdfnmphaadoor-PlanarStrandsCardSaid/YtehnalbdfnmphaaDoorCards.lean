/-
  DERIVED. GIVEN WITH THE SEED: THE CARDS: each row of YtehnalbdfnmphaaDoorRows.lean that lists a variable, with what it lists TIED to the program's text (the seventh form; the later family's looks); each row that meets fmt, with fmt's text TOLD by the authors' own Lean function (tested against real Go, not proved from fmt's source: count such statements apart). THE CARD IS WHAT COUNTS. Prove the row's statement (the work); the ties are given (YtehnalbdfnmphaaDoorTie.lean); close each card by the builder's one call (the guide's Derived/Test/ToyasCard.lean, 'card_holds'). Laid BY PROGRAM, IN A SANDBOX (cutbox-door.mjs). By AI agents, Wed Nov 11 2026. No macro, syntax, notation, axiom, sorry.
-/
import Derived.Test.YtehnalbdfnmphaaDoorRows
import GoSem.ClaimSeven
namespace Go.Proofs.YtehnalbdfnmphaaDoor
namespace Rows

/-- THE TIED CARD OF 'unravellaw03.PlanarFormats'. -/
def planarFormatsCard : Claim7 := { stood := { row := planarFormatsRow, standIns := [], harness := (true, "54ba058fda7ae53489951bf504932d3e830c6b357e338585886245a132240668"), looks := true }, kinds := [], alts := [], laidByText := true, laidKinds := [.data, .data, .data], laidTests := true, laidLooks := .later }
def PlanarFormatsCardSaid : Prop := Claim7.holds Tryd.pinned (.plain (OpenSpec.ofChange planarFormatsSpec)) planarFormatsCard

/-- THE TIED CARD OF 'unravellaw03.PlanarEncodes'. -/
def planarEncodesCard : Claim7 := { stood := { row := planarEncodesRow, standIns := [], harness := (true, "54ba058fda7ae53489951bf504932d3e830c6b357e338585886245a132240668"), looks := true }, kinds := [], alts := [], laidByText := true, laidKinds := [.data, .data, .data], laidTests := true, laidLooks := .later }
def PlanarEncodesCardSaid : Prop := Claim7.holds Tryd.pinned (.plain (OpenSpec.ofChange planarEncodesSpec)) planarEncodesCard

/-- THE TIED CARD OF 'unravellaw03.PlanarDecodes'. -/
def planarDecodesCard : Claim7 := { stood := { row := planarDecodesRow, standIns := [], harness := (true, "54ba058fda7ae53489951bf504932d3e830c6b357e338585886245a132240668"), looks := true }, kinds := [], alts := [], laidByText := true, laidKinds := [.data, .data, .data], laidTests := true, laidLooks := .later }
def PlanarDecodesCardSaid : Prop := Claim7.holds Tryd.pinned (.plain (OpenSpec.ofChange planarDecodesSpec)) planarDecodesCard

/-- THE TIED CARD OF 'unravellaw03.PlanarBinary'. -/
def planarBinaryCard : Claim7 := { stood := { row := planarBinaryRow, standIns := [], harness := (true, "54ba058fda7ae53489951bf504932d3e830c6b357e338585886245a132240668"), looks := true }, kinds := [], alts := [], laidByText := true, laidKinds := [.data, .data, .data], laidTests := true, laidLooks := .later }
def PlanarBinaryCardSaid : Prop := Claim7.holds Tryd.pinned (.plain (OpenSpec.ofChange planarBinarySpec)) planarBinaryCard

/-- THE TIED CARD OF 'unravellaw03.PlanarParses'. -/
def planarParsesCard : Claim7 := { stood := { row := planarParsesRow, standIns := [], harness := (true, "54ba058fda7ae53489951bf504932d3e830c6b357e338585886245a132240668"), looks := true }, kinds := [], alts := [], laidByText := true, laidKinds := [.data, .data, .data], laidTests := true, laidLooks := .later }
def PlanarParsesCardSaid : Prop := Claim7.holds Tryd.pinned (.plain (OpenSpec.ofChange planarParsesSpec)) planarParsesCard

/-- THE TIED CARD OF 'unravellaw03.PlanarStrands'. -/
def planarStrandsCard : Claim7 := { stood := { row := planarStrandsRow, standIns := [], harness := (true, "54ba058fda7ae53489951bf504932d3e830c6b357e338585886245a132240668"), looks := true }, kinds := [], alts := [], laidByText := true, laidKinds := [.data, .data, .data, .data, .pinned], laidTests := true, laidLooks := .later }
def PlanarStrandsCardSaid : Prop := Claim7.holds Tryd.pinned (.plain (OpenSpec.ofChange planarStrandsSpec)) planarStrandsCard

/-- THE TIED CARD OF 'unravellaw03.PlanarReturns'. -/
def planarReturnsCard : Claim7 := { stood := { row := planarReturnsRow, standIns := [], harness := (true, "54ba058fda7ae53489951bf504932d3e830c6b357e338585886245a132240668"), looks := true }, kinds := [], alts := [], laidByText := true, laidKinds := [.data, .data, .data], laidTests := true, laidLooks := .later }
def PlanarReturnsCardSaid : Prop := Claim7.holds Tryd.pinned (.plain (OpenSpec.ofChange planarReturnsSpec)) planarReturnsCard

/-- THE TIED CARD OF 'unravellaw03.PlanarRenames'. -/
def planarRenamesCard : Claim7 := { stood := { row := planarRenamesRow, standIns := [], harness := (true, "54ba058fda7ae53489951bf504932d3e830c6b357e338585886245a132240668"), looks := true }, kinds := [], alts := [], laidByText := true, laidKinds := [.data, .data, .data, .data, .sentinel, .sentinel, .pinned], laidTests := true, laidLooks := .later }
def PlanarRenamesCardSaid : Prop := Claim7.holds Tryd.pinned (.plain (OpenSpec.ofChange planarRenamesSpec)) planarRenamesCard

/-- THE SECOND FORM's CARD OF 'unravellaw03.PlanarFormats'. -/
def planarFormatsUptoCard : Claim7 := { stood := { row := planarFormatsUptoRow, standIns := [], harness := (true, "54ba058fda7ae53489951bf504932d3e830c6b357e338585886245a132240668"), looks := true }, kinds := [], alts := [], laidByText := true, laidKinds := [.data, .data, .data], laidTests := true, laidLooks := .later }
def PlanarFormatsUptoCardSaid : Prop := Claim7.holds Tryd.pinned (.plain (OpenSpec.upto planarFormatsSpec)) planarFormatsUptoCard

/-- THE SECOND FORM's CARD OF 'unravellaw03.PlanarEncodes'. -/
def planarEncodesUptoCard : Claim7 := { stood := { row := planarEncodesUptoRow, standIns := [], harness := (true, "54ba058fda7ae53489951bf504932d3e830c6b357e338585886245a132240668"), looks := true }, kinds := [], alts := [], laidByText := true, laidKinds := [.data, .data, .data], laidTests := true, laidLooks := .later }
def PlanarEncodesUptoCardSaid : Prop := Claim7.holds Tryd.pinned (.plain (OpenSpec.upto planarEncodesSpec)) planarEncodesUptoCard

/-- THE SECOND FORM's CARD OF 'unravellaw03.PlanarDecodes'. -/
def planarDecodesUptoCard : Claim7 := { stood := { row := planarDecodesUptoRow, standIns := [], harness := (true, "54ba058fda7ae53489951bf504932d3e830c6b357e338585886245a132240668"), looks := true }, kinds := [], alts := [], laidByText := true, laidKinds := [.data, .data, .data], laidTests := true, laidLooks := .later }
def PlanarDecodesUptoCardSaid : Prop := Claim7.holds Tryd.pinned (.plain (OpenSpec.upto planarDecodesSpec)) planarDecodesUptoCard

/-- THE SECOND FORM's CARD OF 'unravellaw03.PlanarBinary'. -/
def planarBinaryUptoCard : Claim7 := { stood := { row := planarBinaryUptoRow, standIns := [], harness := (true, "54ba058fda7ae53489951bf504932d3e830c6b357e338585886245a132240668"), looks := true }, kinds := [], alts := [], laidByText := true, laidKinds := [.data, .data, .data], laidTests := true, laidLooks := .later }
def PlanarBinaryUptoCardSaid : Prop := Claim7.holds Tryd.pinned (.plain (OpenSpec.upto planarBinarySpec)) planarBinaryUptoCard

/-- THE SECOND FORM's CARD OF 'unravellaw03.PlanarParses'. -/
def planarParsesUptoCard : Claim7 := { stood := { row := planarParsesUptoRow, standIns := [], harness := (true, "54ba058fda7ae53489951bf504932d3e830c6b357e338585886245a132240668"), looks := true }, kinds := [], alts := [], laidByText := true, laidKinds := [.data, .data, .data], laidTests := true, laidLooks := .later }
def PlanarParsesUptoCardSaid : Prop := Claim7.holds Tryd.pinned (.plain (OpenSpec.upto planarParsesSpec)) planarParsesUptoCard

/-- THE SECOND FORM's CARD OF 'unravellaw03.PlanarStrands'. -/
def planarStrandsUptoCard : Claim7 := { stood := { row := planarStrandsUptoRow, standIns := [], harness := (true, "54ba058fda7ae53489951bf504932d3e830c6b357e338585886245a132240668"), looks := true }, kinds := [], alts := [], laidByText := true, laidKinds := [.data, .data, .data, .data, .pinned], laidTests := true, laidLooks := .later }
def PlanarStrandsUptoCardSaid : Prop := Claim7.holds Tryd.pinned (.plain (OpenSpec.upto planarStrandsSpec)) planarStrandsUptoCard

/-- THE SECOND FORM's CARD OF 'unravellaw03.PlanarReturns'. -/
def planarReturnsUptoCard : Claim7 := { stood := { row := planarReturnsUptoRow, standIns := [], harness := (true, "54ba058fda7ae53489951bf504932d3e830c6b357e338585886245a132240668"), looks := true }, kinds := [], alts := [], laidByText := true, laidKinds := [.data, .data, .data], laidTests := true, laidLooks := .later }
def PlanarReturnsUptoCardSaid : Prop := Claim7.holds Tryd.pinned (.plain (OpenSpec.upto planarReturnsSpec)) planarReturnsUptoCard

/-- THE SECOND FORM's CARD OF 'unravellaw03.PlanarRenames'. -/
def planarRenamesUptoCard : Claim7 := { stood := { row := planarRenamesUptoRow, standIns := [], harness := (true, "54ba058fda7ae53489951bf504932d3e830c6b357e338585886245a132240668"), looks := true }, kinds := [], alts := [], laidByText := true, laidKinds := [.data, .data, .data, .data, .sentinel, .sentinel, .pinned], laidTests := true, laidLooks := .later }
def PlanarRenamesUptoCardSaid : Prop := Claim7.holds Tryd.pinned (.plain (OpenSpec.upto planarRenamesSpec)) planarRenamesUptoCard
end Rows
end Go.Proofs.YtehnalbdfnmphaaDoor
