/-
  DERIVED. GIVEN WITH THE SEED: THE CARDS: each row of YtlnjddjobbhcaaaDoorRows.lean that lists a variable, with what it lists TIED to the program's text (the seventh form; the later family's looks); each row that meets fmt, with fmt's text TOLD by the authors' own Lean function (tested against real Go, not proved from fmt's source: count such statements apart). THE CARD IS WHAT COUNTS. Prove the row's statement (the work); the ties are given (YtlnjddjobbhcaaaDoorTie.lean); close each card by the builder's one call (the guide's Derived/Test/ToyasCard.lean, 'card_holds'). Laid BY PROGRAM, IN A SANDBOX (cutbox-door.mjs). By AI agents, Wed Nov 11 2026. No macro, syntax, notation, axiom, sorry.
-/
import Derived.Test.YtlnjddjobbhcaaaDoorRows
import GoSem.ClaimSeven
namespace Go.Proofs.YtlnjddjobbhcaaaDoor
namespace Rows

/-- THE TIED CARD OF 'unravellaw12.LaurentDivides'. -/
def laurentDividesCard : Claim7 := { stood := { row := laurentDividesRow, standIns := [], harness := (true, "0fab0f8bc804c4735afd05e436fa408e6c2bbfa4115a0068b8edd0005d805f3d"), looks := false }, kinds := [], alts := [], laidByText := true, laidKinds := [.data, .data, .data], laidTests := true, laidLooks := .later }
def LaurentDividesCardSaid : Prop := Claim7.holds Tryd.pinned (.plain (OpenSpec.ofChange laurentDividesSpec)) laurentDividesCard

/-- THE TIED CARD OF 'unravellaw12.LaurentExact'. -/
def laurentExactCard : Claim7 := { stood := { row := laurentExactRow, standIns := [], harness := (true, "0fab0f8bc804c4735afd05e436fa408e6c2bbfa4115a0068b8edd0005d805f3d"), looks := false }, kinds := [], alts := [], laidByText := true, laidKinds := [.data, .data, .data], laidTests := true, laidLooks := .later }
def LaurentExactCardSaid : Prop := Claim7.holds Tryd.pinned (.plain (OpenSpec.ofChange laurentExactSpec)) laurentExactCard

/-- THE TIED CARD OF 'unravellaw12.LaurentRing'. -/
def laurentRingCard : Claim7 := { stood := { row := laurentRingRow, standIns := [], harness := (true, "0fab0f8bc804c4735afd05e436fa408e6c2bbfa4115a0068b8edd0005d805f3d"), looks := false }, kinds := [], alts := [], laidByText := true, laidKinds := [.data, .data, .data], laidTests := true, laidLooks := .later }
def LaurentRingCardSaid : Prop := Claim7.holds Tryd.pinned (.plain (OpenSpec.ofChange laurentRingSpec)) laurentRingCard

/-- THE TIED CARD OF 'unravellaw12.LaurentScales'. -/
def laurentScalesCard : Claim7 := { stood := { row := laurentScalesRow, standIns := [], harness := (true, "0fab0f8bc804c4735afd05e436fa408e6c2bbfa4115a0068b8edd0005d805f3d"), looks := false }, kinds := [], alts := [], laidByText := true, laidKinds := [.data, .data, .data], laidTests := true, laidLooks := .later }
def LaurentScalesCardSaid : Prop := Claim7.holds Tryd.pinned (.plain (OpenSpec.ofChange laurentScalesSpec)) laurentScalesCard

/-- THE TIED CARD OF 'unravellaw12.LaurentOf'. -/
def laurentOfCard : Claim7 := { stood := { row := laurentOfRow, standIns := [], harness := (true, "0fab0f8bc804c4735afd05e436fa408e6c2bbfa4115a0068b8edd0005d805f3d"), looks := false }, kinds := [], alts := [], laidByText := true, laidKinds := [.data, .data, .data], laidTests := true, laidLooks := .later }
def LaurentOfCardSaid : Prop := Claim7.holds Tryd.pinned (.plain (OpenSpec.ofChange laurentOfSpec)) laurentOfCard

/-- THE TIED CARD OF 'unravellaw12.LaurentValue'. -/
def laurentValueCard : Claim7 := { stood := { row := laurentValueRow, standIns := [], harness := (true, "0fab0f8bc804c4735afd05e436fa408e6c2bbfa4115a0068b8edd0005d805f3d"), looks := false }, kinds := [], alts := [], laidByText := true, laidKinds := [.data, .data, .data], laidTests := true, laidLooks := .later }
def LaurentValueCardSaid : Prop := Claim7.holds Tryd.pinned (.plain (OpenSpec.ofChange laurentValueSpec)) laurentValueCard

/-- THE TIED CARD OF 'unravellaw12.LaurentAt'. -/
def laurentAtCard : Claim7 := { stood := { row := laurentAtRow, standIns := [], harness := (true, "0fab0f8bc804c4735afd05e436fa408e6c2bbfa4115a0068b8edd0005d805f3d"), looks := false }, kinds := [], alts := [], laidByText := true, laidKinds := [.data, .data, .data], laidTests := true, laidLooks := .later }
def LaurentAtCardSaid : Prop := Claim7.holds Tryd.pinned (.plain (OpenSpec.ofChange laurentAtSpec)) laurentAtCard

/-- THE SECOND FORM's CARD OF 'unravellaw12.LaurentDivides'. -/
def laurentDividesUptoCard : Claim7 := { stood := { row := laurentDividesUptoRow, standIns := [], harness := (true, "0fab0f8bc804c4735afd05e436fa408e6c2bbfa4115a0068b8edd0005d805f3d"), looks := false }, kinds := [], alts := [], laidByText := true, laidKinds := [.data, .data, .data], laidTests := true, laidLooks := .later }
def LaurentDividesUptoCardSaid : Prop := Claim7.holds Tryd.pinned (.plain (OpenSpec.upto laurentDividesSpec)) laurentDividesUptoCard

/-- THE SECOND FORM's CARD OF 'unravellaw12.LaurentExact'. -/
def laurentExactUptoCard : Claim7 := { stood := { row := laurentExactUptoRow, standIns := [], harness := (true, "0fab0f8bc804c4735afd05e436fa408e6c2bbfa4115a0068b8edd0005d805f3d"), looks := false }, kinds := [], alts := [], laidByText := true, laidKinds := [.data, .data, .data], laidTests := true, laidLooks := .later }
def LaurentExactUptoCardSaid : Prop := Claim7.holds Tryd.pinned (.plain (OpenSpec.upto laurentExactSpec)) laurentExactUptoCard

/-- THE SECOND FORM's CARD OF 'unravellaw12.LaurentRing'. -/
def laurentRingUptoCard : Claim7 := { stood := { row := laurentRingUptoRow, standIns := [], harness := (true, "0fab0f8bc804c4735afd05e436fa408e6c2bbfa4115a0068b8edd0005d805f3d"), looks := false }, kinds := [], alts := [], laidByText := true, laidKinds := [.data, .data, .data], laidTests := true, laidLooks := .later }
def LaurentRingUptoCardSaid : Prop := Claim7.holds Tryd.pinned (.plain (OpenSpec.upto laurentRingSpec)) laurentRingUptoCard

/-- THE SECOND FORM's CARD OF 'unravellaw12.LaurentScales'. -/
def laurentScalesUptoCard : Claim7 := { stood := { row := laurentScalesUptoRow, standIns := [], harness := (true, "0fab0f8bc804c4735afd05e436fa408e6c2bbfa4115a0068b8edd0005d805f3d"), looks := false }, kinds := [], alts := [], laidByText := true, laidKinds := [.data, .data, .data], laidTests := true, laidLooks := .later }
def LaurentScalesUptoCardSaid : Prop := Claim7.holds Tryd.pinned (.plain (OpenSpec.upto laurentScalesSpec)) laurentScalesUptoCard

/-- THE SECOND FORM's CARD OF 'unravellaw12.LaurentOf'. -/
def laurentOfUptoCard : Claim7 := { stood := { row := laurentOfUptoRow, standIns := [], harness := (true, "0fab0f8bc804c4735afd05e436fa408e6c2bbfa4115a0068b8edd0005d805f3d"), looks := false }, kinds := [], alts := [], laidByText := true, laidKinds := [.data, .data, .data], laidTests := true, laidLooks := .later }
def LaurentOfUptoCardSaid : Prop := Claim7.holds Tryd.pinned (.plain (OpenSpec.upto laurentOfSpec)) laurentOfUptoCard

/-- THE SECOND FORM's CARD OF 'unravellaw12.LaurentValue'. -/
def laurentValueUptoCard : Claim7 := { stood := { row := laurentValueUptoRow, standIns := [], harness := (true, "0fab0f8bc804c4735afd05e436fa408e6c2bbfa4115a0068b8edd0005d805f3d"), looks := false }, kinds := [], alts := [], laidByText := true, laidKinds := [.data, .data, .data], laidTests := true, laidLooks := .later }
def LaurentValueUptoCardSaid : Prop := Claim7.holds Tryd.pinned (.plain (OpenSpec.upto laurentValueSpec)) laurentValueUptoCard

/-- THE SECOND FORM's CARD OF 'unravellaw12.LaurentAt'. -/
def laurentAtUptoCard : Claim7 := { stood := { row := laurentAtUptoRow, standIns := [], harness := (true, "0fab0f8bc804c4735afd05e436fa408e6c2bbfa4115a0068b8edd0005d805f3d"), looks := false }, kinds := [], alts := [], laidByText := true, laidKinds := [.data, .data, .data], laidTests := true, laidLooks := .later }
def LaurentAtUptoCardSaid : Prop := Claim7.holds Tryd.pinned (.plain (OpenSpec.upto laurentAtSpec)) laurentAtUptoCard
end Rows
end Go.Proofs.YtlnjddjobbhcaaaDoor
