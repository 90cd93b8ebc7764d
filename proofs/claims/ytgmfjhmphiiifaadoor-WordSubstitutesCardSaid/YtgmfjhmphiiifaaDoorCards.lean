/-
  DERIVED. GIVEN WITH THE SEED: THE CARDS: each row of YtgmfjhmphiiifaaDoorRows.lean that lists a variable, with what it lists TIED to the program's text (the seventh form; the later family's looks); each row that meets fmt, with fmt's text TOLD by the authors' own Lean function (tested against real Go, not proved from fmt's source: count such statements apart). THE CARD IS WHAT COUNTS. Prove the row's statement (the work); the ties are given (YtgmfjhmphiiifaaDoorTie.lean); close each card by the builder's one call (the guide's Derived/Test/ToyasCard.lean, 'card_holds'). Laid BY PROGRAM, IN A SANDBOX (cutbox-door.mjs). By AI agents, Wed Nov 11 2026. No macro, syntax, notation, axiom, sorry.
-/
import Derived.Test.YtgmfjhmphiiifaaDoorRows
import GoSem.ClaimSeven
namespace Go.Proofs.YtgmfjhmphiiifaaDoor
namespace Rows

/-- THE TIED CARD OF 'unravellaw21.WordConfluent'. -/
def wordConfluentCard : Claim7 := { stood := { row := wordConfluentRow, standIns := [], harness := (true, "cb35266de7c707d6c0d6fbec56bf639eff33b905b9c80eb23900e620ade2631f"), looks := false }, kinds := [], alts := [], laidByText := true, laidKinds := [.data, .data, .data], laidTests := true, laidLooks := .later }
def WordConfluentCardSaid : Prop := Claim7.holds Tryd.pinned (.plain (OpenSpec.ofChange wordConfluentSpec)) wordConfluentCard

/-- THE TIED CARD OF 'unravellaw21.WordValid'. -/
def wordValidCard : Claim7 := { stood := { row := wordValidRow, standIns := [], harness := (true, "cb35266de7c707d6c0d6fbec56bf639eff33b905b9c80eb23900e620ade2631f"), looks := false }, kinds := [], alts := [], laidByText := true, laidKinds := [.data, .data, .data], laidTests := true, laidLooks := .later }
def WordValidCardSaid : Prop := Claim7.holds Tryd.pinned (.plain (OpenSpec.ofChange wordValidSpec)) wordValidCard

/-- THE TIED CARD OF 'unravellaw21.WordReduces'. -/
def wordReducesCard : Claim7 := { stood := { row := wordReducesRow, standIns := [], harness := (true, "cb35266de7c707d6c0d6fbec56bf639eff33b905b9c80eb23900e620ade2631f"), looks := false }, kinds := [], alts := [], laidByText := true, laidKinds := [.data, .data, .data], laidTests := true, laidLooks := .later }
def WordReducesCardSaid : Prop := Claim7.holds Tryd.pinned (.plain (OpenSpec.ofChange wordReducesSpec)) wordReducesCard

/-- THE TIED CARD OF 'unravellaw21.WordGroup'. -/
def wordGroupCard : Claim7 := { stood := { row := wordGroupRow, standIns := [], harness := (true, "cb35266de7c707d6c0d6fbec56bf639eff33b905b9c80eb23900e620ade2631f"), looks := false }, kinds := [], alts := [], laidByText := true, laidKinds := [.data, .data, .data], laidTests := true, laidLooks := .later }
def WordGroupCardSaid : Prop := Claim7.holds Tryd.pinned (.plain (OpenSpec.ofChange wordGroupSpec)) wordGroupCard

/-- THE TIED CARD OF 'unravellaw21.WordConjugate'. -/
def wordConjugateCard : Claim7 := { stood := { row := wordConjugateRow, standIns := [], harness := (true, "cb35266de7c707d6c0d6fbec56bf639eff33b905b9c80eb23900e620ade2631f"), looks := false }, kinds := [], alts := [], laidByText := true, laidKinds := [.data, .data, .data], laidTests := true, laidLooks := .later }
def WordConjugateCardSaid : Prop := Claim7.holds Tryd.pinned (.plain (OpenSpec.ofChange wordConjugateSpec)) wordConjugateCard

/-- THE TIED CARD OF 'unravellaw21.WordSubstitutes'. -/
def wordSubstitutesCard : Claim7 := { stood := { row := wordSubstitutesRow, standIns := [], harness := (true, "cb35266de7c707d6c0d6fbec56bf639eff33b905b9c80eb23900e620ade2631f"), looks := false }, kinds := [], alts := [], laidByText := true, laidKinds := [.data, .data, .data], laidTests := true, laidLooks := .later }
def WordSubstitutesCardSaid : Prop := Claim7.holds Tryd.pinned (.plain (OpenSpec.ofChange wordSubstitutesSpec)) wordSubstitutesCard

/-- THE TIED CARD OF 'unravellaw21.WordExponents'. -/
def wordExponentsCard : Claim7 := { stood := { row := wordExponentsRow, standIns := [], harness := (true, "cb35266de7c707d6c0d6fbec56bf639eff33b905b9c80eb23900e620ade2631f"), looks := false }, kinds := [], alts := [], laidByText := true, laidKinds := [.data, .data, .data], laidTests := true, laidLooks := .later }
def WordExponentsCardSaid : Prop := Claim7.holds Tryd.pinned (.plain (OpenSpec.ofChange wordExponentsSpec)) wordExponentsCard

/-- THE TIED CARD OF 'unravellaw21.WordTexts'. -/
def wordTextsCard : Claim7 := { stood := { row := wordTextsRow, standIns := [], harness := (true, "cb35266de7c707d6c0d6fbec56bf639eff33b905b9c80eb23900e620ade2631f"), looks := false }, kinds := [], alts := [], laidByText := true, laidKinds := [.data, .data, .data, .data, .pinned], laidTests := true, laidLooks := .later }
def WordTextsCardSaid : Prop := Claim7.holds Tryd.pinned (.plain (OpenSpec.ofChange wordTextsSpec)) wordTextsCard

/-- THE TIED CARD OF 'unravellaw21.WordParses'. -/
def wordParsesCard : Claim7 := { stood := { row := wordParsesRow, standIns := [], harness := (true, "cb35266de7c707d6c0d6fbec56bf639eff33b905b9c80eb23900e620ade2631f"), looks := false }, kinds := [], alts := [], laidByText := true, laidKinds := [.data, .data, .data, .data, .pinned], laidTests := true, laidLooks := .later }
def WordParsesCardSaid : Prop := Claim7.holds Tryd.pinned (.plain (OpenSpec.ofChange wordParsesSpec)) wordParsesCard

/-- THE SECOND FORM's CARD OF 'unravellaw21.WordConfluent'. -/
def wordConfluentUptoCard : Claim7 := { stood := { row := wordConfluentUptoRow, standIns := [], harness := (true, "cb35266de7c707d6c0d6fbec56bf639eff33b905b9c80eb23900e620ade2631f"), looks := false }, kinds := [], alts := [], laidByText := true, laidKinds := [.data, .data, .data], laidTests := true, laidLooks := .later }
def WordConfluentUptoCardSaid : Prop := Claim7.holds Tryd.pinned (.plain (OpenSpec.upto wordConfluentSpec)) wordConfluentUptoCard

/-- THE SECOND FORM's CARD OF 'unravellaw21.WordValid'. -/
def wordValidUptoCard : Claim7 := { stood := { row := wordValidUptoRow, standIns := [], harness := (true, "cb35266de7c707d6c0d6fbec56bf639eff33b905b9c80eb23900e620ade2631f"), looks := false }, kinds := [], alts := [], laidByText := true, laidKinds := [.data, .data, .data], laidTests := true, laidLooks := .later }
def WordValidUptoCardSaid : Prop := Claim7.holds Tryd.pinned (.plain (OpenSpec.upto wordValidSpec)) wordValidUptoCard

/-- THE SECOND FORM's CARD OF 'unravellaw21.WordReduces'. -/
def wordReducesUptoCard : Claim7 := { stood := { row := wordReducesUptoRow, standIns := [], harness := (true, "cb35266de7c707d6c0d6fbec56bf639eff33b905b9c80eb23900e620ade2631f"), looks := false }, kinds := [], alts := [], laidByText := true, laidKinds := [.data, .data, .data], laidTests := true, laidLooks := .later }
def WordReducesUptoCardSaid : Prop := Claim7.holds Tryd.pinned (.plain (OpenSpec.upto wordReducesSpec)) wordReducesUptoCard

/-- THE SECOND FORM's CARD OF 'unravellaw21.WordGroup'. -/
def wordGroupUptoCard : Claim7 := { stood := { row := wordGroupUptoRow, standIns := [], harness := (true, "cb35266de7c707d6c0d6fbec56bf639eff33b905b9c80eb23900e620ade2631f"), looks := false }, kinds := [], alts := [], laidByText := true, laidKinds := [.data, .data, .data], laidTests := true, laidLooks := .later }
def WordGroupUptoCardSaid : Prop := Claim7.holds Tryd.pinned (.plain (OpenSpec.upto wordGroupSpec)) wordGroupUptoCard

/-- THE SECOND FORM's CARD OF 'unravellaw21.WordConjugate'. -/
def wordConjugateUptoCard : Claim7 := { stood := { row := wordConjugateUptoRow, standIns := [], harness := (true, "cb35266de7c707d6c0d6fbec56bf639eff33b905b9c80eb23900e620ade2631f"), looks := false }, kinds := [], alts := [], laidByText := true, laidKinds := [.data, .data, .data], laidTests := true, laidLooks := .later }
def WordConjugateUptoCardSaid : Prop := Claim7.holds Tryd.pinned (.plain (OpenSpec.upto wordConjugateSpec)) wordConjugateUptoCard

/-- THE SECOND FORM's CARD OF 'unravellaw21.WordSubstitutes'. -/
def wordSubstitutesUptoCard : Claim7 := { stood := { row := wordSubstitutesUptoRow, standIns := [], harness := (true, "cb35266de7c707d6c0d6fbec56bf639eff33b905b9c80eb23900e620ade2631f"), looks := false }, kinds := [], alts := [], laidByText := true, laidKinds := [.data, .data, .data], laidTests := true, laidLooks := .later }
def WordSubstitutesUptoCardSaid : Prop := Claim7.holds Tryd.pinned (.plain (OpenSpec.upto wordSubstitutesSpec)) wordSubstitutesUptoCard

/-- THE SECOND FORM's CARD OF 'unravellaw21.WordExponents'. -/
def wordExponentsUptoCard : Claim7 := { stood := { row := wordExponentsUptoRow, standIns := [], harness := (true, "cb35266de7c707d6c0d6fbec56bf639eff33b905b9c80eb23900e620ade2631f"), looks := false }, kinds := [], alts := [], laidByText := true, laidKinds := [.data, .data, .data], laidTests := true, laidLooks := .later }
def WordExponentsUptoCardSaid : Prop := Claim7.holds Tryd.pinned (.plain (OpenSpec.upto wordExponentsSpec)) wordExponentsUptoCard

/-- THE SECOND FORM's CARD OF 'unravellaw21.WordTexts'. -/
def wordTextsUptoCard : Claim7 := { stood := { row := wordTextsUptoRow, standIns := [], harness := (true, "cb35266de7c707d6c0d6fbec56bf639eff33b905b9c80eb23900e620ade2631f"), looks := false }, kinds := [], alts := [], laidByText := true, laidKinds := [.data, .data, .data, .data, .pinned], laidTests := true, laidLooks := .later }
def WordTextsUptoCardSaid : Prop := Claim7.holds Tryd.pinned (.plain (OpenSpec.upto wordTextsSpec)) wordTextsUptoCard

/-- THE SECOND FORM's CARD OF 'unravellaw21.WordParses'. -/
def wordParsesUptoCard : Claim7 := { stood := { row := wordParsesUptoRow, standIns := [], harness := (true, "cb35266de7c707d6c0d6fbec56bf639eff33b905b9c80eb23900e620ade2631f"), looks := false }, kinds := [], alts := [], laidByText := true, laidKinds := [.data, .data, .data, .data, .pinned], laidTests := true, laidLooks := .later }
def WordParsesUptoCardSaid : Prop := Claim7.holds Tryd.pinned (.plain (OpenSpec.upto wordParsesSpec)) wordParsesUptoCard
end Rows
end Go.Proofs.YtgmfjhmphiiifaaDoor
