/-
  DERIVED. GIVEN WITH THE SEED: THE CARDS: each row of YtofknpknogfijaaGreatDoorRows.lean that lists a variable, with what it lists TIED to the program's text (the seventh form; the later family's looks); each row that meets fmt, with fmt's text TOLD by the authors' own Lean function (tested against real Go, not proved from fmt's source: count such statements apart). THE CARD IS WHAT COUNTS. Prove the row's statement (the work); the ties are given (YtofknpknogfijaaGreatDoorTie.lean); close each card by the builder's one call (the guide's Derived/Test/ToyasCard.lean, 'card_holds'). Laid BY PROGRAM, IN A SANDBOX (cutbox-door.mjs). By AI agents, Wed Nov 11 2026. No macro, syntax, notation, axiom, sorry.
-/
import Derived.Test.YtofknpknogfijaaGreatDoorRows
import GoSem.ClaimSeven
namespace Go.Proofs.YtofknpknogfijaaGreatDoor
namespace Rows

/-- THE TIED CARD OF 'unravellaw24.PolymatrixDet'. -/
def polymatrixDetCard : Claim7 := { stood := { row := polymatrixDetRow, standIns := [], harness := (true, "3a1cc6b549df5b98f0eda777768ad5c0d60734d5a6a34ceb246611653118709d"), looks := false }, kinds := [], alts := [], laidByText := true, laidKinds := [.data, .data, .data], laidTests := true, laidLooks := .later }
def PolymatrixDetCardSaid : Prop := Claim7.holds Tryz.pinned (.plain (OpenSpec.ofChange polymatrixDetSpec)) polymatrixDetCard

/-- THE TIED CARD OF 'unravellaw24.PolymatrixRows'. -/
def polymatrixRowsCard : Claim7 := { stood := { row := polymatrixRowsRow, standIns := [], harness := (true, "3a1cc6b549df5b98f0eda777768ad5c0d60734d5a6a34ceb246611653118709d"), looks := false }, kinds := [], alts := [], laidByText := true, laidKinds := [.data, .data, .data], laidTests := true, laidLooks := .later }
def PolymatrixRowsCardSaid : Prop := Claim7.holds Tryz.pinned (.plain (OpenSpec.ofChange polymatrixRowsSpec)) polymatrixRowsCard

/-- THE TIED CARD OF 'unravellaw24.PolymatrixTriangles'. -/
def polymatrixTrianglesCard : Claim7 := { stood := { row := polymatrixTrianglesRow, standIns := [], harness := (true, "3a1cc6b549df5b98f0eda777768ad5c0d60734d5a6a34ceb246611653118709d"), looks := false }, kinds := [], alts := [], laidByText := true, laidKinds := [.data, .data, .data], laidTests := true, laidLooks := .later }
def PolymatrixTrianglesCardSaid : Prop := Claim7.holds Tryz.pinned (.plain (OpenSpec.ofChange polymatrixTrianglesSpec)) polymatrixTrianglesCard

/-- THE TIED CARD OF 'unravellaw24.PolymatrixNormal'. -/
def polymatrixNormalCard : Claim7 := { stood := { row := polymatrixNormalRow, standIns := [], harness := (true, "3a1cc6b549df5b98f0eda777768ad5c0d60734d5a6a34ceb246611653118709d"), looks := false }, kinds := [], alts := [], laidByText := true, laidKinds := [.data, .data, .data], laidTests := true, laidLooks := .later }
def PolymatrixNormalCardSaid : Prop := Claim7.holds Tryz.pinned (.plain (OpenSpec.ofChange polymatrixNormalSpec)) polymatrixNormalCard

/-- THE TIED CARD OF 'unravellaw24.PolymatrixGcd'. -/
def polymatrixGcdCard : Claim7 := { stood := { row := polymatrixGcdRow, standIns := [], harness := (true, "3a1cc6b549df5b98f0eda777768ad5c0d60734d5a6a34ceb246611653118709d"), looks := false }, kinds := [], alts := [], laidByText := true, laidKinds := [.data, .data, .data], laidTests := true, laidLooks := .later }
def PolymatrixGcdCardSaid : Prop := Claim7.holds Tryz.pinned (.plain (OpenSpec.ofChange polymatrixGcdSpec)) polymatrixGcdCard

/-- THE TIED CARD OF 'unravellaw24.PolymatrixProduct'. -/
def polymatrixProductCard : Claim7 := { stood := { row := polymatrixProductRow, standIns := [], harness := (true, "3a1cc6b549df5b98f0eda777768ad5c0d60734d5a6a34ceb246611653118709d"), looks := false }, kinds := [], alts := [], laidByText := true, laidKinds := [.data, .data, .data], laidTests := true, laidLooks := .later }
def PolymatrixProductCardSaid : Prop := Claim7.holds Tryz.pinned (.plain (OpenSpec.ofChange polymatrixProductSpec)) polymatrixProductCard

/-- THE SECOND FORM's CARD OF 'unravellaw24.PolymatrixDet'. -/
def polymatrixDetUptoCard : Claim7 := { stood := { row := polymatrixDetUptoRow, standIns := [], harness := (true, "3a1cc6b549df5b98f0eda777768ad5c0d60734d5a6a34ceb246611653118709d"), looks := false }, kinds := [], alts := [], laidByText := true, laidKinds := [.data, .data, .data], laidTests := true, laidLooks := .later }
def PolymatrixDetUptoCardSaid : Prop := Claim7.holds Tryz.pinned (.plain (OpenSpec.upto polymatrixDetSpec)) polymatrixDetUptoCard

/-- THE SECOND FORM's CARD OF 'unravellaw24.PolymatrixRows'. -/
def polymatrixRowsUptoCard : Claim7 := { stood := { row := polymatrixRowsUptoRow, standIns := [], harness := (true, "3a1cc6b549df5b98f0eda777768ad5c0d60734d5a6a34ceb246611653118709d"), looks := false }, kinds := [], alts := [], laidByText := true, laidKinds := [.data, .data, .data], laidTests := true, laidLooks := .later }
def PolymatrixRowsUptoCardSaid : Prop := Claim7.holds Tryz.pinned (.plain (OpenSpec.upto polymatrixRowsSpec)) polymatrixRowsUptoCard

/-- THE SECOND FORM's CARD OF 'unravellaw24.PolymatrixTriangles'. -/
def polymatrixTrianglesUptoCard : Claim7 := { stood := { row := polymatrixTrianglesUptoRow, standIns := [], harness := (true, "3a1cc6b549df5b98f0eda777768ad5c0d60734d5a6a34ceb246611653118709d"), looks := false }, kinds := [], alts := [], laidByText := true, laidKinds := [.data, .data, .data], laidTests := true, laidLooks := .later }
def PolymatrixTrianglesUptoCardSaid : Prop := Claim7.holds Tryz.pinned (.plain (OpenSpec.upto polymatrixTrianglesSpec)) polymatrixTrianglesUptoCard

/-- THE SECOND FORM's CARD OF 'unravellaw24.PolymatrixNormal'. -/
def polymatrixNormalUptoCard : Claim7 := { stood := { row := polymatrixNormalUptoRow, standIns := [], harness := (true, "3a1cc6b549df5b98f0eda777768ad5c0d60734d5a6a34ceb246611653118709d"), looks := false }, kinds := [], alts := [], laidByText := true, laidKinds := [.data, .data, .data], laidTests := true, laidLooks := .later }
def PolymatrixNormalUptoCardSaid : Prop := Claim7.holds Tryz.pinned (.plain (OpenSpec.upto polymatrixNormalSpec)) polymatrixNormalUptoCard

/-- THE SECOND FORM's CARD OF 'unravellaw24.PolymatrixGcd'. -/
def polymatrixGcdUptoCard : Claim7 := { stood := { row := polymatrixGcdUptoRow, standIns := [], harness := (true, "3a1cc6b549df5b98f0eda777768ad5c0d60734d5a6a34ceb246611653118709d"), looks := false }, kinds := [], alts := [], laidByText := true, laidKinds := [.data, .data, .data], laidTests := true, laidLooks := .later }
def PolymatrixGcdUptoCardSaid : Prop := Claim7.holds Tryz.pinned (.plain (OpenSpec.upto polymatrixGcdSpec)) polymatrixGcdUptoCard

/-- THE SECOND FORM's CARD OF 'unravellaw24.PolymatrixProduct'. -/
def polymatrixProductUptoCard : Claim7 := { stood := { row := polymatrixProductUptoRow, standIns := [], harness := (true, "3a1cc6b549df5b98f0eda777768ad5c0d60734d5a6a34ceb246611653118709d"), looks := false }, kinds := [], alts := [], laidByText := true, laidKinds := [.data, .data, .data], laidTests := true, laidLooks := .later }
def PolymatrixProductUptoCardSaid : Prop := Claim7.holds Tryz.pinned (.plain (OpenSpec.upto polymatrixProductSpec)) polymatrixProductUptoCard
end Rows
end Go.Proofs.YtofknpknogfijaaGreatDoor
