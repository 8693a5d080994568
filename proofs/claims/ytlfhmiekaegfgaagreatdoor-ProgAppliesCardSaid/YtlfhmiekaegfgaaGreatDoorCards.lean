/-
  DERIVED. GIVEN WITH THE SEED: THE CARDS: each row of YtlfhmiekaegfgaaGreatDoorRows.lean that lists a variable, with what it lists TIED to the program's text (the seventh form; the later family's looks); each row that meets fmt, with fmt's text TOLD by the authors' own Lean function (tested against real Go, not proved from fmt's source: count such statements apart). THE CARD IS WHAT COUNTS. Prove the row's statement (the work); the ties are given (YtlfhmiekaegfgaaGreatDoorTie.lean); close each card by the builder's one call (the guide's Derived/Test/ToyasCard.lean, 'card_holds'). Laid BY PROGRAM, IN A SANDBOX (cutbox-door.mjs). By AI agents, Wed Nov 11 2026. No macro, syntax, notation, axiom, sorry.
-/
import Derived.Test.YtlfhmiekaegfgaaGreatDoorRows
import GoSem.ClaimSeven
namespace Go.Proofs.YtlfhmiekaegfgaaGreatDoor
namespace Rows

/-- THE TIED CARD OF 'ogivelaw14.GraphPlays'. -/
def graphPlaysCard : Claim7 := { stood := { row := graphPlaysRow, standIns := [], harness := (true, "3574e02ca0eabdeacfa37da52672251b7a3b68402236a5e37fd5a754c468d22c"), looks := true }, kinds := [], alts := [], laidByText := true, laidKinds := [.data, .pinned], laidTests := true, laidLooks := .later }
def GraphPlaysCardSaid : Prop := Claim7.holds Tryz.pinned (.plain (OpenSpec.ofChange graphPlaysSpec)) graphPlaysCard

/-- THE TIED CARD OF 'ogivelaw14.GraphFits'. -/
def graphFitsCard : Claim7 := { stood := { row := graphFitsRow, standIns := [], harness := (true, "3574e02ca0eabdeacfa37da52672251b7a3b68402236a5e37fd5a754c468d22c"), looks := true }, kinds := [], alts := [], laidByText := true, laidKinds := [.data, .pinned], laidTests := true, laidLooks := .later }
def GraphFitsCardSaid : Prop := Claim7.holds Tryz.pinned (.plain (OpenSpec.ofChange graphFitsSpec)) graphFitsCard

/-- THE TIED CARD OF 'ogivelaw14.GraphRows'. -/
def graphRowsCard : Claim7 := { stood := { row := graphRowsRow, standIns := [], harness := (true, "3574e02ca0eabdeacfa37da52672251b7a3b68402236a5e37fd5a754c468d22c"), looks := true }, kinds := [], alts := [], laidByText := true, laidKinds := [.data, .pinned], laidTests := true, laidLooks := .later }
def GraphRowsCardSaid : Prop := Claim7.holds Tryz.pinned (.plain (OpenSpec.ofChange graphRowsSpec)) graphRowsCard

/-- THE TIED CARD OF 'ogivelaw15.OpSteps'. -/
def opStepsCard : Claim7 := { stood := { row := opStepsRow, standIns := [], harness := (true, "3574e02ca0eabdeacfa37da52672251b7a3b68402236a5e37fd5a754c468d22c"), looks := true }, kinds := [], alts := [], laidByText := true, laidKinds := [.data, .pinned], laidTests := true, laidLooks := .later }
def OpStepsCardSaid : Prop := Claim7.holds Tryz.pinned (.plain (OpenSpec.ofChange opStepsSpec)) opStepsCard

/-- THE TIED CARD OF 'ogivelaw15.OpRanges'. -/
def opRangesCard : Claim7 := { stood := { row := opRangesRow, standIns := [], harness := (true, "3574e02ca0eabdeacfa37da52672251b7a3b68402236a5e37fd5a754c468d22c"), looks := true }, kinds := [], alts := [], laidByText := true, laidKinds := [.data, .pinned], laidTests := true, laidLooks := .later }
def OpRangesCardSaid : Prop := Claim7.holds Tryz.pinned (.plain (OpenSpec.ofChange opRangesSpec)) opRangesCard

/-- THE TIED CARD OF 'ogivelaw15.OpUnique'. -/
def opUniqueCard : Claim7 := { stood := { row := opUniqueRow, standIns := [], harness := (true, "3574e02ca0eabdeacfa37da52672251b7a3b68402236a5e37fd5a754c468d22c"), looks := true }, kinds := [], alts := [], laidByText := true, laidKinds := [.data, .pinned], laidTests := true, laidLooks := .later }
def OpUniqueCardSaid : Prop := Claim7.holds Tryz.pinned (.plain (OpenSpec.ofChange opUniqueSpec)) opUniqueCard

/-- THE TIED CARD OF 'ogivelaw16.ProgRuns'. -/
def progRunsCard : Claim7 := { stood := { row := progRunsRow, standIns := [], harness := (true, "3574e02ca0eabdeacfa37da52672251b7a3b68402236a5e37fd5a754c468d22c"), looks := true }, kinds := [], alts := [], laidByText := true, laidKinds := [.data, .pinned], laidTests := true, laidLooks := .later }
def ProgRunsCardSaid : Prop := Claim7.holds Tryz.pinned (.plain (OpenSpec.ofChange progRunsSpec)) progRunsCard

/-- THE TIED CARD OF 'ogivelaw16.ProgJoins'. -/
def progJoinsCard : Claim7 := { stood := { row := progJoinsRow, standIns := [], harness := (true, "3574e02ca0eabdeacfa37da52672251b7a3b68402236a5e37fd5a754c468d22c"), looks := true }, kinds := [], alts := [], laidByText := true, laidKinds := [.data, .pinned], laidTests := true, laidLooks := .later }
def ProgJoinsCardSaid : Prop := Claim7.holds Tryz.pinned (.plain (OpenSpec.ofChange progJoinsSpec)) progJoinsCard

/-- THE TIED CARD OF 'ogivelaw16.ProgChecks'. -/
def progChecksCard : Claim7 := { stood := { row := progChecksRow, standIns := [], harness := (true, "3574e02ca0eabdeacfa37da52672251b7a3b68402236a5e37fd5a754c468d22c"), looks := true }, kinds := [], alts := [], laidByText := true, laidKinds := [.data, .pinned], laidTests := true, laidLooks := .later }
def ProgChecksCardSaid : Prop := Claim7.holds Tryz.pinned (.plain (OpenSpec.ofChange progChecksSpec)) progChecksCard

/-- THE TIED CARD OF 'ogivelaw15.OpDoes'. -/
def opDoesCard : Claim7 := { stood := { row := opDoesRow, standIns := [], harness := (true, "3574e02ca0eabdeacfa37da52672251b7a3b68402236a5e37fd5a754c468d22c"), looks := true }, kinds := [], alts := [], laidByText := true, laidKinds := [.data, .pinned], laidTests := true, laidLooks := .later }
def OpDoesCardSaid : Prop := Claim7.holds Tryz.pinned (.plain (OpenSpec.ofChange opDoesSpec)) opDoesCard

/-- THE TIED CARD OF 'ogivelaw15.OpFits'. -/
def opFitsCard : Claim7 := { stood := { row := opFitsRow, standIns := [], harness := (true, "3574e02ca0eabdeacfa37da52672251b7a3b68402236a5e37fd5a754c468d22c"), looks := true }, kinds := [], alts := [], laidByText := true, laidKinds := [.data, .pinned], laidTests := true, laidLooks := .later }
def OpFitsCardSaid : Prop := Claim7.holds Tryz.pinned (.plain (OpenSpec.ofChange opFitsSpec)) opFitsCard

/-- THE TIED CARD OF 'ogivelaw15.OpReads'. -/
def opReadsCard : Claim7 := { stood := { row := opReadsRow, standIns := [], harness := (true, "3574e02ca0eabdeacfa37da52672251b7a3b68402236a5e37fd5a754c468d22c"), looks := true }, kinds := [], alts := [], laidByText := true, laidKinds := [.data, .pinned], laidTests := true, laidLooks := .later }
def OpReadsCardSaid : Prop := Claim7.holds Tryz.pinned (.plain (OpenSpec.ofChange opReadsSpec)) opReadsCard

/-- THE TIED CARD OF 'ogivelaw15.OpBack'. -/
def opBackCard : Claim7 := { stood := { row := opBackRow, standIns := [], harness := (true, "3574e02ca0eabdeacfa37da52672251b7a3b68402236a5e37fd5a754c468d22c"), looks := true }, kinds := [], alts := [], laidByText := true, laidKinds := [.data, .pinned], laidTests := true, laidLooks := .later }
def OpBackCardSaid : Prop := Claim7.holds Tryz.pinned (.plain (OpenSpec.ofChange opBackSpec)) opBackCard

/-- THE TIED CARD OF 'ogivelaw16.ProgEffect'. -/
def progEffectCard : Claim7 := { stood := { row := progEffectRow, standIns := [], harness := (true, "3574e02ca0eabdeacfa37da52672251b7a3b68402236a5e37fd5a754c468d22c"), looks := true }, kinds := [], alts := [], laidByText := true, laidKinds := [.data, .pinned], laidTests := true, laidLooks := .later }
def ProgEffectCardSaid : Prop := Claim7.holds Tryz.pinned (.plain (OpenSpec.ofChange progEffectSpec)) progEffectCard

/-- THE TIED CARD OF 'ogivelaw16.ProgApplies'. -/
def progAppliesCard : Claim7 := { stood := { row := progAppliesRow, standIns := [], harness := (true, "3574e02ca0eabdeacfa37da52672251b7a3b68402236a5e37fd5a754c468d22c"), looks := true }, kinds := [], alts := [], laidByText := true, laidKinds := [.data, .pinned], laidTests := true, laidLooks := .later }
def ProgAppliesCardSaid : Prop := Claim7.holds Tryz.pinned (.plain (OpenSpec.ofChange progAppliesSpec)) progAppliesCard

/-- THE TIED CARD OF 'ogivelaw16.ProgWhole'. -/
def progWholeCard : Claim7 := { stood := { row := progWholeRow, standIns := [], harness := (true, "3574e02ca0eabdeacfa37da52672251b7a3b68402236a5e37fd5a754c468d22c"), looks := true }, kinds := [], alts := [], laidByText := true, laidKinds := [.data, .pinned], laidTests := true, laidLooks := .later }
def ProgWholeCardSaid : Prop := Claim7.holds Tryz.pinned (.plain (OpenSpec.ofChange progWholeSpec)) progWholeCard

/-- THE TIED CARD OF 'ogivelaw17.TxnNeeds'. -/
def txnNeedsCard : Claim7 := { stood := { row := txnNeedsRow, standIns := [], harness := (true, "3574e02ca0eabdeacfa37da52672251b7a3b68402236a5e37fd5a754c468d22c"), looks := true }, kinds := [], alts := [], laidByText := true, laidKinds := [.data, .pinned], laidTests := true, laidLooks := .later }
def TxnNeedsCardSaid : Prop := Claim7.holds Tryz.pinned (.plain (OpenSpec.ofChange txnNeedsSpec)) txnNeedsCard

/-- THE TIED CARD OF 'ogivelaw17.TxnSteps'. -/
def txnStepsCard : Claim7 := { stood := { row := txnStepsRow, standIns := [], harness := (true, "3574e02ca0eabdeacfa37da52672251b7a3b68402236a5e37fd5a754c468d22c"), looks := true }, kinds := [], alts := [], laidByText := true, laidKinds := [.data, .pinned], laidTests := true, laidLooks := .later }
def TxnStepsCardSaid : Prop := Claim7.holds Tryz.pinned (.plain (OpenSpec.ofChange txnStepsSpec)) txnStepsCard

/-- THE TIED CARD OF 'ogivelaw17.TxnView'. -/
def txnViewCard : Claim7 := { stood := { row := txnViewRow, standIns := [], harness := (true, "3574e02ca0eabdeacfa37da52672251b7a3b68402236a5e37fd5a754c468d22c"), looks := true }, kinds := [], alts := [], laidByText := true, laidKinds := [.data, .pinned], laidTests := true, laidLooks := .later }
def TxnViewCardSaid : Prop := Claim7.holds Tryz.pinned (.plain (OpenSpec.ofChange txnViewSpec)) txnViewCard

/-- THE TIED CARD OF 'ogivelaw17.TxnTells'. -/
def txnTellsCard : Claim7 := { stood := { row := txnTellsRow, standIns := [], harness := (true, "3574e02ca0eabdeacfa37da52672251b7a3b68402236a5e37fd5a754c468d22c"), looks := true }, kinds := [], alts := [], laidByText := true, laidKinds := [.data, .pinned], laidTests := true, laidLooks := .later }
def TxnTellsCardSaid : Prop := Claim7.holds Tryz.pinned (.plain (OpenSpec.ofChange txnTellsSpec)) txnTellsCard

/-- THE TIED CARD OF 'ogivelaw17.TxnBetween'. -/
def txnBetweenCard : Claim7 := { stood := { row := txnBetweenRow, standIns := [], harness := (true, "3574e02ca0eabdeacfa37da52672251b7a3b68402236a5e37fd5a754c468d22c"), looks := true }, kinds := [], alts := [], laidByText := true, laidKinds := [.data, .pinned], laidTests := true, laidLooks := .later }
def TxnBetweenCardSaid : Prop := Claim7.holds Tryz.pinned (.plain (OpenSpec.ofChange txnBetweenSpec)) txnBetweenCard

/-- THE TIED CARD OF 'ogivelaw17.TxnWrites'. -/
def txnWritesCard : Claim7 := { stood := { row := txnWritesRow, standIns := [], harness := (true, "3574e02ca0eabdeacfa37da52672251b7a3b68402236a5e37fd5a754c468d22c"), looks := true }, kinds := [], alts := [], laidByText := true, laidKinds := [.data, .pinned], laidTests := true, laidLooks := .later }
def TxnWritesCardSaid : Prop := Claim7.holds Tryz.pinned (.plain (OpenSpec.ofChange txnWritesSpec)) txnWritesCard

/-- THE SECOND FORM's CARD OF 'ogivelaw14.GraphPlays'. -/
def graphPlaysUptoCard : Claim7 := { stood := { row := graphPlaysUptoRow, standIns := [], harness := (true, "3574e02ca0eabdeacfa37da52672251b7a3b68402236a5e37fd5a754c468d22c"), looks := true }, kinds := [], alts := [], laidByText := true, laidKinds := [.data, .pinned], laidTests := true, laidLooks := .later }
def GraphPlaysUptoCardSaid : Prop := Claim7.holds Tryz.pinned (.plain (OpenSpec.upto graphPlaysSpec)) graphPlaysUptoCard

/-- THE SECOND FORM's CARD OF 'ogivelaw14.GraphFits'. -/
def graphFitsUptoCard : Claim7 := { stood := { row := graphFitsUptoRow, standIns := [], harness := (true, "3574e02ca0eabdeacfa37da52672251b7a3b68402236a5e37fd5a754c468d22c"), looks := true }, kinds := [], alts := [], laidByText := true, laidKinds := [.data, .pinned], laidTests := true, laidLooks := .later }
def GraphFitsUptoCardSaid : Prop := Claim7.holds Tryz.pinned (.plain (OpenSpec.upto graphFitsSpec)) graphFitsUptoCard

/-- THE SECOND FORM's CARD OF 'ogivelaw14.GraphRows'. -/
def graphRowsUptoCard : Claim7 := { stood := { row := graphRowsUptoRow, standIns := [], harness := (true, "3574e02ca0eabdeacfa37da52672251b7a3b68402236a5e37fd5a754c468d22c"), looks := true }, kinds := [], alts := [], laidByText := true, laidKinds := [.data, .pinned], laidTests := true, laidLooks := .later }
def GraphRowsUptoCardSaid : Prop := Claim7.holds Tryz.pinned (.plain (OpenSpec.upto graphRowsSpec)) graphRowsUptoCard

/-- THE SECOND FORM's CARD OF 'ogivelaw15.OpSteps'. -/
def opStepsUptoCard : Claim7 := { stood := { row := opStepsUptoRow, standIns := [], harness := (true, "3574e02ca0eabdeacfa37da52672251b7a3b68402236a5e37fd5a754c468d22c"), looks := true }, kinds := [], alts := [], laidByText := true, laidKinds := [.data, .pinned], laidTests := true, laidLooks := .later }
def OpStepsUptoCardSaid : Prop := Claim7.holds Tryz.pinned (.plain (OpenSpec.upto opStepsSpec)) opStepsUptoCard

/-- THE SECOND FORM's CARD OF 'ogivelaw15.OpRanges'. -/
def opRangesUptoCard : Claim7 := { stood := { row := opRangesUptoRow, standIns := [], harness := (true, "3574e02ca0eabdeacfa37da52672251b7a3b68402236a5e37fd5a754c468d22c"), looks := true }, kinds := [], alts := [], laidByText := true, laidKinds := [.data, .pinned], laidTests := true, laidLooks := .later }
def OpRangesUptoCardSaid : Prop := Claim7.holds Tryz.pinned (.plain (OpenSpec.upto opRangesSpec)) opRangesUptoCard

/-- THE SECOND FORM's CARD OF 'ogivelaw15.OpUnique'. -/
def opUniqueUptoCard : Claim7 := { stood := { row := opUniqueUptoRow, standIns := [], harness := (true, "3574e02ca0eabdeacfa37da52672251b7a3b68402236a5e37fd5a754c468d22c"), looks := true }, kinds := [], alts := [], laidByText := true, laidKinds := [.data, .pinned], laidTests := true, laidLooks := .later }
def OpUniqueUptoCardSaid : Prop := Claim7.holds Tryz.pinned (.plain (OpenSpec.upto opUniqueSpec)) opUniqueUptoCard

/-- THE SECOND FORM's CARD OF 'ogivelaw16.ProgRuns'. -/
def progRunsUptoCard : Claim7 := { stood := { row := progRunsUptoRow, standIns := [], harness := (true, "3574e02ca0eabdeacfa37da52672251b7a3b68402236a5e37fd5a754c468d22c"), looks := true }, kinds := [], alts := [], laidByText := true, laidKinds := [.data, .pinned], laidTests := true, laidLooks := .later }
def ProgRunsUptoCardSaid : Prop := Claim7.holds Tryz.pinned (.plain (OpenSpec.upto progRunsSpec)) progRunsUptoCard

/-- THE SECOND FORM's CARD OF 'ogivelaw16.ProgJoins'. -/
def progJoinsUptoCard : Claim7 := { stood := { row := progJoinsUptoRow, standIns := [], harness := (true, "3574e02ca0eabdeacfa37da52672251b7a3b68402236a5e37fd5a754c468d22c"), looks := true }, kinds := [], alts := [], laidByText := true, laidKinds := [.data, .pinned], laidTests := true, laidLooks := .later }
def ProgJoinsUptoCardSaid : Prop := Claim7.holds Tryz.pinned (.plain (OpenSpec.upto progJoinsSpec)) progJoinsUptoCard

/-- THE SECOND FORM's CARD OF 'ogivelaw16.ProgChecks'. -/
def progChecksUptoCard : Claim7 := { stood := { row := progChecksUptoRow, standIns := [], harness := (true, "3574e02ca0eabdeacfa37da52672251b7a3b68402236a5e37fd5a754c468d22c"), looks := true }, kinds := [], alts := [], laidByText := true, laidKinds := [.data, .pinned], laidTests := true, laidLooks := .later }
def ProgChecksUptoCardSaid : Prop := Claim7.holds Tryz.pinned (.plain (OpenSpec.upto progChecksSpec)) progChecksUptoCard

/-- THE SECOND FORM's CARD OF 'ogivelaw15.OpDoes'. -/
def opDoesUptoCard : Claim7 := { stood := { row := opDoesUptoRow, standIns := [], harness := (true, "3574e02ca0eabdeacfa37da52672251b7a3b68402236a5e37fd5a754c468d22c"), looks := true }, kinds := [], alts := [], laidByText := true, laidKinds := [.data, .pinned], laidTests := true, laidLooks := .later }
def OpDoesUptoCardSaid : Prop := Claim7.holds Tryz.pinned (.plain (OpenSpec.upto opDoesSpec)) opDoesUptoCard

/-- THE SECOND FORM's CARD OF 'ogivelaw15.OpFits'. -/
def opFitsUptoCard : Claim7 := { stood := { row := opFitsUptoRow, standIns := [], harness := (true, "3574e02ca0eabdeacfa37da52672251b7a3b68402236a5e37fd5a754c468d22c"), looks := true }, kinds := [], alts := [], laidByText := true, laidKinds := [.data, .pinned], laidTests := true, laidLooks := .later }
def OpFitsUptoCardSaid : Prop := Claim7.holds Tryz.pinned (.plain (OpenSpec.upto opFitsSpec)) opFitsUptoCard

/-- THE SECOND FORM's CARD OF 'ogivelaw15.OpReads'. -/
def opReadsUptoCard : Claim7 := { stood := { row := opReadsUptoRow, standIns := [], harness := (true, "3574e02ca0eabdeacfa37da52672251b7a3b68402236a5e37fd5a754c468d22c"), looks := true }, kinds := [], alts := [], laidByText := true, laidKinds := [.data, .pinned], laidTests := true, laidLooks := .later }
def OpReadsUptoCardSaid : Prop := Claim7.holds Tryz.pinned (.plain (OpenSpec.upto opReadsSpec)) opReadsUptoCard

/-- THE SECOND FORM's CARD OF 'ogivelaw15.OpBack'. -/
def opBackUptoCard : Claim7 := { stood := { row := opBackUptoRow, standIns := [], harness := (true, "3574e02ca0eabdeacfa37da52672251b7a3b68402236a5e37fd5a754c468d22c"), looks := true }, kinds := [], alts := [], laidByText := true, laidKinds := [.data, .pinned], laidTests := true, laidLooks := .later }
def OpBackUptoCardSaid : Prop := Claim7.holds Tryz.pinned (.plain (OpenSpec.upto opBackSpec)) opBackUptoCard

/-- THE SECOND FORM's CARD OF 'ogivelaw16.ProgEffect'. -/
def progEffectUptoCard : Claim7 := { stood := { row := progEffectUptoRow, standIns := [], harness := (true, "3574e02ca0eabdeacfa37da52672251b7a3b68402236a5e37fd5a754c468d22c"), looks := true }, kinds := [], alts := [], laidByText := true, laidKinds := [.data, .pinned], laidTests := true, laidLooks := .later }
def ProgEffectUptoCardSaid : Prop := Claim7.holds Tryz.pinned (.plain (OpenSpec.upto progEffectSpec)) progEffectUptoCard

/-- THE SECOND FORM's CARD OF 'ogivelaw16.ProgApplies'. -/
def progAppliesUptoCard : Claim7 := { stood := { row := progAppliesUptoRow, standIns := [], harness := (true, "3574e02ca0eabdeacfa37da52672251b7a3b68402236a5e37fd5a754c468d22c"), looks := true }, kinds := [], alts := [], laidByText := true, laidKinds := [.data, .pinned], laidTests := true, laidLooks := .later }
def ProgAppliesUptoCardSaid : Prop := Claim7.holds Tryz.pinned (.plain (OpenSpec.upto progAppliesSpec)) progAppliesUptoCard

/-- THE SECOND FORM's CARD OF 'ogivelaw16.ProgWhole'. -/
def progWholeUptoCard : Claim7 := { stood := { row := progWholeUptoRow, standIns := [], harness := (true, "3574e02ca0eabdeacfa37da52672251b7a3b68402236a5e37fd5a754c468d22c"), looks := true }, kinds := [], alts := [], laidByText := true, laidKinds := [.data, .pinned], laidTests := true, laidLooks := .later }
def ProgWholeUptoCardSaid : Prop := Claim7.holds Tryz.pinned (.plain (OpenSpec.upto progWholeSpec)) progWholeUptoCard

/-- THE SECOND FORM's CARD OF 'ogivelaw17.TxnNeeds'. -/
def txnNeedsUptoCard : Claim7 := { stood := { row := txnNeedsUptoRow, standIns := [], harness := (true, "3574e02ca0eabdeacfa37da52672251b7a3b68402236a5e37fd5a754c468d22c"), looks := true }, kinds := [], alts := [], laidByText := true, laidKinds := [.data, .pinned], laidTests := true, laidLooks := .later }
def TxnNeedsUptoCardSaid : Prop := Claim7.holds Tryz.pinned (.plain (OpenSpec.upto txnNeedsSpec)) txnNeedsUptoCard

/-- THE SECOND FORM's CARD OF 'ogivelaw17.TxnSteps'. -/
def txnStepsUptoCard : Claim7 := { stood := { row := txnStepsUptoRow, standIns := [], harness := (true, "3574e02ca0eabdeacfa37da52672251b7a3b68402236a5e37fd5a754c468d22c"), looks := true }, kinds := [], alts := [], laidByText := true, laidKinds := [.data, .pinned], laidTests := true, laidLooks := .later }
def TxnStepsUptoCardSaid : Prop := Claim7.holds Tryz.pinned (.plain (OpenSpec.upto txnStepsSpec)) txnStepsUptoCard

/-- THE SECOND FORM's CARD OF 'ogivelaw17.TxnView'. -/
def txnViewUptoCard : Claim7 := { stood := { row := txnViewUptoRow, standIns := [], harness := (true, "3574e02ca0eabdeacfa37da52672251b7a3b68402236a5e37fd5a754c468d22c"), looks := true }, kinds := [], alts := [], laidByText := true, laidKinds := [.data, .pinned], laidTests := true, laidLooks := .later }
def TxnViewUptoCardSaid : Prop := Claim7.holds Tryz.pinned (.plain (OpenSpec.upto txnViewSpec)) txnViewUptoCard

/-- THE SECOND FORM's CARD OF 'ogivelaw17.TxnTells'. -/
def txnTellsUptoCard : Claim7 := { stood := { row := txnTellsUptoRow, standIns := [], harness := (true, "3574e02ca0eabdeacfa37da52672251b7a3b68402236a5e37fd5a754c468d22c"), looks := true }, kinds := [], alts := [], laidByText := true, laidKinds := [.data, .pinned], laidTests := true, laidLooks := .later }
def TxnTellsUptoCardSaid : Prop := Claim7.holds Tryz.pinned (.plain (OpenSpec.upto txnTellsSpec)) txnTellsUptoCard

/-- THE SECOND FORM's CARD OF 'ogivelaw17.TxnBetween'. -/
def txnBetweenUptoCard : Claim7 := { stood := { row := txnBetweenUptoRow, standIns := [], harness := (true, "3574e02ca0eabdeacfa37da52672251b7a3b68402236a5e37fd5a754c468d22c"), looks := true }, kinds := [], alts := [], laidByText := true, laidKinds := [.data, .pinned], laidTests := true, laidLooks := .later }
def TxnBetweenUptoCardSaid : Prop := Claim7.holds Tryz.pinned (.plain (OpenSpec.upto txnBetweenSpec)) txnBetweenUptoCard

/-- THE SECOND FORM's CARD OF 'ogivelaw17.TxnWrites'. -/
def txnWritesUptoCard : Claim7 := { stood := { row := txnWritesUptoRow, standIns := [], harness := (true, "3574e02ca0eabdeacfa37da52672251b7a3b68402236a5e37fd5a754c468d22c"), looks := true }, kinds := [], alts := [], laidByText := true, laidKinds := [.data, .pinned], laidTests := true, laidLooks := .later }
def TxnWritesUptoCardSaid : Prop := Claim7.holds Tryz.pinned (.plain (OpenSpec.upto txnWritesSpec)) txnWritesUptoCard
end Rows
end Go.Proofs.YtlfhmiekaegfgaaGreatDoor
