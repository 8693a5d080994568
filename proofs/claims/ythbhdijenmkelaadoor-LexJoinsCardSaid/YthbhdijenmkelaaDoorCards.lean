/-
  DERIVED. GIVEN WITH THE SEED: THE CARDS: each row of YthbhdijenmkelaaDoorRows.lean that lists a variable, with what it lists TIED to the program's text (the seventh form; the later family's looks); each row that meets fmt, with fmt's text TOLD by the authors' own Lean function (tested against real Go, not proved from fmt's source: count such statements apart). THE CARD IS WHAT COUNTS. Prove the row's statement (the work); the ties are given (YthbhdijenmkelaaDoorTie.lean); close each card by the builder's one call (the guide's Derived/Test/ToyasCard.lean, 'card_holds'). Laid BY PROGRAM, IN A SANDBOX (cutbox-door.mjs). By AI agents, Wed Nov 11 2026. No macro, syntax, notation, axiom, sorry.
-/
import Derived.Test.YthbhdijenmkelaaDoorRows
import GoSem.ClaimSeven
namespace Go.Proofs.YthbhdijenmkelaaDoor
namespace Rows

/-- THE TIED CARD OF 'ogivelaw21.LexBack'. -/
def lexBackCard : Claim7 := { stood := { row := lexBackRow, standIns := [], harness := (true, "020202aba292492f2a6fe0d377fb85d6e340c147d680dfd63b5ae6924d4421fe"), looks := true }, kinds := [], alts := [], laidByText := true, laidKinds := [.data, .data, .data, .sentinel, .sentinel], laidTests := true, laidLooks := .later }
def LexBackCardSaid : Prop := Claim7.holds Tryd.pinned (.plain (OpenSpec.ofChange lexBackSpec)) lexBackCard

/-- THE TIED CARD OF 'ogivelaw21.LexQuotes'. -/
def lexQuotesCard : Claim7 := { stood := { row := lexQuotesRow, standIns := [], harness := (true, "020202aba292492f2a6fe0d377fb85d6e340c147d680dfd63b5ae6924d4421fe"), looks := true }, kinds := [], alts := [], laidByText := true, laidKinds := [.data, .data, .data, .sentinel, .sentinel], laidTests := true, laidLooks := .later }
def LexQuotesCardSaid : Prop := Claim7.holds Tryd.pinned (.plain (OpenSpec.ofChange lexQuotesSpec)) lexQuotesCard

/-- THE TIED CARD OF 'ogivelaw21.LexJoins'. -/
def lexJoinsCard : Claim7 := { stood := { row := lexJoinsRow, standIns := [], harness := (true, "020202aba292492f2a6fe0d377fb85d6e340c147d680dfd63b5ae6924d4421fe"), looks := true }, kinds := [], alts := [], laidByText := true, laidKinds := [.data, .data, .data, .sentinel, .sentinel], laidTests := true, laidLooks := .later }
def LexJoinsCardSaid : Prop := Claim7.holds Tryd.pinned (.plain (OpenSpec.ofChange lexJoinsSpec)) lexJoinsCard

/-- THE TIED CARD OF 'ogivelaw21.LexPlaces'. -/
def lexPlacesCard : Claim7 := { stood := { row := lexPlacesRow, standIns := [], harness := (true, "020202aba292492f2a6fe0d377fb85d6e340c147d680dfd63b5ae6924d4421fe"), looks := true }, kinds := [], alts := [], laidByText := true, laidKinds := [.data, .data, .data, .sentinel, .sentinel], laidTests := true, laidLooks := .later }
def LexPlacesCardSaid : Prop := Claim7.holds Tryd.pinned (.plain (OpenSpec.ofChange lexPlacesSpec)) lexPlacesCard

/-- THE TIED CARD OF 'ogivelaw22.GqlBack'. -/
def gqlBackCard : Claim7 := { stood := { row := gqlBackRow, standIns := [], harness := (true, "020202aba292492f2a6fe0d377fb85d6e340c147d680dfd63b5ae6924d4421fe"), looks := true }, kinds := [], alts := [], laidByText := true, laidKinds := [.data, .data, .data, .sentinel, .sentinel], laidTests := true, laidLooks := .later }
def GqlBackCardSaid : Prop := Claim7.holds Tryd.pinned (.plain (OpenSpec.ofChange gqlBackSpec)) gqlBackCard

/-- THE TIED CARD OF 'ogivelaw22.GqlPrograms'. -/
def gqlProgramsCard : Claim7 := { stood := { row := gqlProgramsRow, standIns := [], harness := (true, "020202aba292492f2a6fe0d377fb85d6e340c147d680dfd63b5ae6924d4421fe"), looks := true }, kinds := [], alts := [], laidByText := true, laidKinds := [.data, .data, .data, .sentinel, .sentinel], laidTests := true, laidLooks := .later }
def GqlProgramsCardSaid : Prop := Claim7.holds Tryd.pinned (.plain (OpenSpec.ofChange gqlProgramsSpec)) gqlProgramsCard

/-- THE TIED CARD OF 'ogivelaw22.GqlBlanks'. -/
def gqlBlanksCard : Claim7 := { stood := { row := gqlBlanksRow, standIns := [], harness := (true, "020202aba292492f2a6fe0d377fb85d6e340c147d680dfd63b5ae6924d4421fe"), looks := true }, kinds := [], alts := [], laidByText := true, laidKinds := [.data, .data, .data, .sentinel, .sentinel], laidTests := true, laidLooks := .later }
def GqlBlanksCardSaid : Prop := Claim7.holds Tryd.pinned (.plain (OpenSpec.ofChange gqlBlanksSpec)) gqlBlanksCard

/-- THE TIED CARD OF 'ogivelaw22.GqlNames'. -/
def gqlNamesCard : Claim7 := { stood := { row := gqlNamesRow, standIns := [], harness := (true, "020202aba292492f2a6fe0d377fb85d6e340c147d680dfd63b5ae6924d4421fe"), looks := true }, kinds := [], alts := [], laidByText := true, laidKinds := [.data, .data, .data, .sentinel, .sentinel], laidTests := true, laidLooks := .later }
def GqlNamesCardSaid : Prop := Claim7.holds Tryd.pinned (.plain (OpenSpec.ofChange gqlNamesSpec)) gqlNamesCard

/-- THE SECOND FORM's CARD OF 'ogivelaw21.LexBack'. -/
def lexBackUptoCard : Claim7 := { stood := { row := lexBackUptoRow, standIns := [], harness := (true, "020202aba292492f2a6fe0d377fb85d6e340c147d680dfd63b5ae6924d4421fe"), looks := true }, kinds := [], alts := [], laidByText := true, laidKinds := [.data, .data, .data, .sentinel, .sentinel], laidTests := true, laidLooks := .later }
def LexBackUptoCardSaid : Prop := Claim7.holds Tryd.pinned (.plain (OpenSpec.upto lexBackSpec)) lexBackUptoCard

/-- THE SECOND FORM's CARD OF 'ogivelaw21.LexQuotes'. -/
def lexQuotesUptoCard : Claim7 := { stood := { row := lexQuotesUptoRow, standIns := [], harness := (true, "020202aba292492f2a6fe0d377fb85d6e340c147d680dfd63b5ae6924d4421fe"), looks := true }, kinds := [], alts := [], laidByText := true, laidKinds := [.data, .data, .data, .sentinel, .sentinel], laidTests := true, laidLooks := .later }
def LexQuotesUptoCardSaid : Prop := Claim7.holds Tryd.pinned (.plain (OpenSpec.upto lexQuotesSpec)) lexQuotesUptoCard

/-- THE SECOND FORM's CARD OF 'ogivelaw21.LexJoins'. -/
def lexJoinsUptoCard : Claim7 := { stood := { row := lexJoinsUptoRow, standIns := [], harness := (true, "020202aba292492f2a6fe0d377fb85d6e340c147d680dfd63b5ae6924d4421fe"), looks := true }, kinds := [], alts := [], laidByText := true, laidKinds := [.data, .data, .data, .sentinel, .sentinel], laidTests := true, laidLooks := .later }
def LexJoinsUptoCardSaid : Prop := Claim7.holds Tryd.pinned (.plain (OpenSpec.upto lexJoinsSpec)) lexJoinsUptoCard

/-- THE SECOND FORM's CARD OF 'ogivelaw21.LexPlaces'. -/
def lexPlacesUptoCard : Claim7 := { stood := { row := lexPlacesUptoRow, standIns := [], harness := (true, "020202aba292492f2a6fe0d377fb85d6e340c147d680dfd63b5ae6924d4421fe"), looks := true }, kinds := [], alts := [], laidByText := true, laidKinds := [.data, .data, .data, .sentinel, .sentinel], laidTests := true, laidLooks := .later }
def LexPlacesUptoCardSaid : Prop := Claim7.holds Tryd.pinned (.plain (OpenSpec.upto lexPlacesSpec)) lexPlacesUptoCard

/-- THE SECOND FORM's CARD OF 'ogivelaw22.GqlBack'. -/
def gqlBackUptoCard : Claim7 := { stood := { row := gqlBackUptoRow, standIns := [], harness := (true, "020202aba292492f2a6fe0d377fb85d6e340c147d680dfd63b5ae6924d4421fe"), looks := true }, kinds := [], alts := [], laidByText := true, laidKinds := [.data, .data, .data, .sentinel, .sentinel], laidTests := true, laidLooks := .later }
def GqlBackUptoCardSaid : Prop := Claim7.holds Tryd.pinned (.plain (OpenSpec.upto gqlBackSpec)) gqlBackUptoCard

/-- THE SECOND FORM's CARD OF 'ogivelaw22.GqlPrograms'. -/
def gqlProgramsUptoCard : Claim7 := { stood := { row := gqlProgramsUptoRow, standIns := [], harness := (true, "020202aba292492f2a6fe0d377fb85d6e340c147d680dfd63b5ae6924d4421fe"), looks := true }, kinds := [], alts := [], laidByText := true, laidKinds := [.data, .data, .data, .sentinel, .sentinel], laidTests := true, laidLooks := .later }
def GqlProgramsUptoCardSaid : Prop := Claim7.holds Tryd.pinned (.plain (OpenSpec.upto gqlProgramsSpec)) gqlProgramsUptoCard

/-- THE SECOND FORM's CARD OF 'ogivelaw22.GqlBlanks'. -/
def gqlBlanksUptoCard : Claim7 := { stood := { row := gqlBlanksUptoRow, standIns := [], harness := (true, "020202aba292492f2a6fe0d377fb85d6e340c147d680dfd63b5ae6924d4421fe"), looks := true }, kinds := [], alts := [], laidByText := true, laidKinds := [.data, .data, .data, .sentinel, .sentinel], laidTests := true, laidLooks := .later }
def GqlBlanksUptoCardSaid : Prop := Claim7.holds Tryd.pinned (.plain (OpenSpec.upto gqlBlanksSpec)) gqlBlanksUptoCard

/-- THE SECOND FORM's CARD OF 'ogivelaw22.GqlNames'. -/
def gqlNamesUptoCard : Claim7 := { stood := { row := gqlNamesUptoRow, standIns := [], harness := (true, "020202aba292492f2a6fe0d377fb85d6e340c147d680dfd63b5ae6924d4421fe"), looks := true }, kinds := [], alts := [], laidByText := true, laidKinds := [.data, .data, .data, .sentinel, .sentinel], laidTests := true, laidLooks := .later }
def GqlNamesUptoCardSaid : Prop := Claim7.holds Tryd.pinned (.plain (OpenSpec.upto gqlNamesSpec)) gqlNamesUptoCard
end Rows
end Go.Proofs.YthbhdijenmkelaaDoor
