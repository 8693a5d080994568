/-
  DERIVED. GIVEN WITH THE SEED: THE CARDS: each row of YtlfhmiekaegfgaaDoorRows.lean that lists a variable, with what it lists TIED to the program's text (the seventh form; the later family's looks); each row that meets fmt, with fmt's text TOLD by the authors' own Lean function (tested against real Go, not proved from fmt's source: count such statements apart). THE CARD IS WHAT COUNTS. Prove the row's statement (the work); the ties are given (YtlfhmiekaegfgaaDoorTie.lean); close each card by the builder's one call (the guide's Derived/Test/ToyasCard.lean, 'card_holds'). Laid BY PROGRAM, IN A SANDBOX (cutbox-door.mjs). By AI agents, Wed Nov 11 2026. No macro, syntax, notation, axiom, sorry.
-/
import Derived.Test.YtlfhmiekaegfgaaDoorRows
import GoSem.ClaimSeven
namespace Go.Proofs.YtlfhmiekaegfgaaDoor
namespace Rows

/-- THE TIED CARD OF 'ogivelaw14.GraphPuts'. -/
def graphPutsCard : Claim7 := { stood := { row := graphPutsRow, standIns := [], harness := (true, "68f7415d546946e84d26ca522759c185641eaaccd9f3a6d728129ab90458caea"), looks := true }, kinds := [], alts := [], laidByText := true, laidKinds := [.data, .pinned], laidTests := true, laidLooks := .later }
def GraphPutsCardSaid : Prop := Claim7.holds Tryd.pinned (.plain (OpenSpec.ofChange graphPutsSpec)) graphPutsCard

/-- THE TIED CARD OF 'ogivelaw14.GraphBack'. -/
def graphBackCard : Claim7 := { stood := { row := graphBackRow, standIns := [], harness := (true, "68f7415d546946e84d26ca522759c185641eaaccd9f3a6d728129ab90458caea"), looks := true }, kinds := [], alts := [], laidByText := true, laidKinds := [.data, .pinned], laidTests := true, laidLooks := .later }
def GraphBackCardSaid : Prop := Claim7.holds Tryd.pinned (.plain (OpenSpec.ofChange graphBackSpec)) graphBackCard

/-- THE TIED CARD OF 'ogivelaw14.GraphCopies'. -/
def graphCopiesCard : Claim7 := { stood := { row := graphCopiesRow, standIns := [], harness := (true, "68f7415d546946e84d26ca522759c185641eaaccd9f3a6d728129ab90458caea"), looks := true }, kinds := [], alts := [], laidByText := true, laidKinds := [.data, .pinned], laidTests := true, laidLooks := .later }
def GraphCopiesCardSaid : Prop := Claim7.holds Tryd.pinned (.plain (OpenSpec.ofChange graphCopiesSpec)) graphCopiesCard

/-- THE SECOND FORM's CARD OF 'ogivelaw14.GraphPuts'. -/
def graphPutsUptoCard : Claim7 := { stood := { row := graphPutsUptoRow, standIns := [], harness := (true, "68f7415d546946e84d26ca522759c185641eaaccd9f3a6d728129ab90458caea"), looks := true }, kinds := [], alts := [], laidByText := true, laidKinds := [.data, .pinned], laidTests := true, laidLooks := .later }
def GraphPutsUptoCardSaid : Prop := Claim7.holds Tryd.pinned (.plain (OpenSpec.upto graphPutsSpec)) graphPutsUptoCard

/-- THE SECOND FORM's CARD OF 'ogivelaw14.GraphBack'. -/
def graphBackUptoCard : Claim7 := { stood := { row := graphBackUptoRow, standIns := [], harness := (true, "68f7415d546946e84d26ca522759c185641eaaccd9f3a6d728129ab90458caea"), looks := true }, kinds := [], alts := [], laidByText := true, laidKinds := [.data, .pinned], laidTests := true, laidLooks := .later }
def GraphBackUptoCardSaid : Prop := Claim7.holds Tryd.pinned (.plain (OpenSpec.upto graphBackSpec)) graphBackUptoCard

/-- THE SECOND FORM's CARD OF 'ogivelaw14.GraphCopies'. -/
def graphCopiesUptoCard : Claim7 := { stood := { row := graphCopiesUptoRow, standIns := [], harness := (true, "68f7415d546946e84d26ca522759c185641eaaccd9f3a6d728129ab90458caea"), looks := true }, kinds := [], alts := [], laidByText := true, laidKinds := [.data, .pinned], laidTests := true, laidLooks := .later }
def GraphCopiesUptoCardSaid : Prop := Claim7.holds Tryd.pinned (.plain (OpenSpec.upto graphCopiesSpec)) graphCopiesUptoCard
end Rows
end Go.Proofs.YtlfhmiekaegfgaaDoor
