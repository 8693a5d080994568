/-
  NARROWER THAN 'FOR EVERY INPUT', by the rows' own cells (each row's printed sentence says how): GraphPlays: laid · GraphFits: laid · GraphRows: laid · OpSteps: laid · OpRanges: laid · OpUnique: laid · ProgRuns: laid · ProgJoins: laid · ProgChecks: laid · OpDoes: laid · OpFits: laid · OpReads: laid · OpBack: laid · ProgEffect: laid · ProgApplies: laid · ProgWhole: laid · TxnNeeds: laid · TxnSteps: laid · TxnView: laid · TxnTells: laid · TxnBetween: laid · TxnWrites: laid.
  DERIVED. THE GIVEN ROWS OF THIS SEAT. 22 by the template 'for every input the law returns true; each argument reads behind the call as it read before'; 0 by the template 'total and deterministic' (their statements: YtlfhmiekaegfgaaGreatDoorTotals.lean).
  GIVEN WITH THE SEED: the statements are not yours to turn. If you find one false, say at which input.
  Laid BY PROGRAM, IN A SANDBOX (cutbox-rows.mjs): the forced cells as the released guide's own fill.sh prints them over the translation 856c56d72352225f… (all of the seat's roots in one cut). By AI agents, Wed Nov 11 2026. No macro, syntax, notation, axiom, sorry.
-/
import Derived.Test.YtlfhmiekaegfgaaGreatDoorChecked
import GoSem.PinnedTables
import GoSem.Claim
import GoSem.ClaimJoined
import GoSem.ClaimMapViews
import Derived.JoinedTies
import Derived.KernelRfl
namespace Go.Proofs.YtlfhmiekaegfgaaGreatDoor
/- THE CELL 'sum', in the pinned program and in every row, IS THE sha256 OF THE DUMP (.gsa) THAT YtlfhmiekaegfgaaGreatDoorProg.lean LOADS. Nothing in Lean hashes anything: it is a label: what it is worth is what the hold of that sum in a sandbox is worth. -/
noncomputable def Tryz.pinned : Pinned := { name := "ytlfhmiekaegfgaagreatdoor", sum := "856c56d72352225f982d572caf080b7ea98edd2654f3fbb91b03673928f42b18", checked := Tryz.checked }
namespace Rows
def none {H : Type} : Left H := { results := [], args := [] }

/- WHAT THE LISTED PACKAGE-LEVEL VARIABLES READ AS WHEN THE CALL BEGINS. Each datum BY PROGRAM (the guide's laid-datum.mjs) off the statement by which the dump's own 'gosem.cut.vars' lays the variable. In a bare row this is a premise. The card (YtlfhmiekaegfgaaGreatDoorCards.lean) ties it to the program's text. -/
def laid_unicode_utf8_acceptRanges {H : Type} : DataW H := .agg [.agg [.lit (.int .u8 128), .lit (.int .u8 191)], .agg [.lit (.int .u8 160), .lit (.int .u8 191)], .agg [.lit (.int .u8 128), .lit (.int .u8 159)], .agg [.lit (.int .u8 144), .lit (.int .u8 191)], .agg [.lit (.int .u8 128), .lit (.int .u8 143)], .agg [.lit (.int .u8 0), .lit (.int .u8 0)], .agg [.lit (.int .u8 0), .lit (.int .u8 0)], .agg [.lit (.int .u8 0), .lit (.int .u8 0)], .agg [.lit (.int .u8 0), .lit (.int .u8 0)], .agg [.lit (.int .u8 0), .lit (.int .u8 0)], .agg [.lit (.int .u8 0), .lit (.int .u8 0)], .agg [.lit (.int .u8 0), .lit (.int .u8 0)], .agg [.lit (.int .u8 0), .lit (.int .u8 0)], .agg [.lit (.int .u8 0), .lit (.int .u8 0)], .agg [.lit (.int .u8 0), .lit (.int .u8 0)], .agg [.lit (.int .u8 0), .lit (.int .u8 0)]]
/-- One of Go's own tables, pinned by name: the form's constant. -/
def laid_unicode_utf8_first : DataW Unit := Go.Pinned.utf8First

/-- 'ogivelaw14.GraphPlays': WHATEVER THE INPUT: true; the input reads as it did. -/
def graphPlaysSpec : ChangeSpec := { name := "graphPlays", fn := fun _ => fun
  | [d1, d2, d3] => { results := [.lit (.bool true)], args := [d1, d2, d3] }
  | _ => none }
def graphPlaysRow : OpenClaim := { program := "ytlfhmiekaegfgaagreatdoor", sum := "856c56d72352225f982d572caf080b7ea98edd2654f3fbb91b03673928f42b18", func := "ogive/ogivelaw14.GraphPlays", spec := "graphPlays", inPlace := ["internal/bytealg.IndexByteString", "internal/bytealg.IndexString", "internal/abi.NoEscape", "internal/bytealg.abigen_runtime_cmpstring", "internal/bytealg.CountString", "internal/bytealg.MakeNoZero"], unfollowed := true, recurses := true, named := ["internal/bytealg.MaxLen", "unicode/utf8.first", "unicode/utf8.acceptRanges"], plainKeys := false, apart := false, laid := [("unicode/utf8.acceptRanges", laid_unicode_utf8_acceptRanges), ("unicode/utf8.first", laid_unicode_utf8_first)] }
def GraphPlaysSaid : Prop := graphPlaysRow.holds Tryz.pinned (OpenSpec.ofChange graphPlaysSpec)

/-- ITS FALSE NEIGHBOUR: 'it returns false'. Refute it at one input. -/
def graphPlaysWrong : ChangeSpec := { name := "graphPlays", fn := fun _ => fun
  | [d1, d2, d3] => { results := [.lit (.bool false)], args := [d1, d2, d3] }
  | _ => none }
def GraphPlaysWrongFalsely : Prop := graphPlaysRow.holds Tryz.pinned (OpenSpec.ofChange graphPlaysWrong)

/-- 'ogivelaw14.GraphFits': WHATEVER THE INPUT: true; the input reads as it did. -/
def graphFitsSpec : ChangeSpec := { name := "graphFits", fn := fun _ => fun
  | [d1, d2] => { results := [.lit (.bool true)], args := [d1, d2] }
  | _ => none }
def graphFitsRow : OpenClaim := { program := "ytlfhmiekaegfgaagreatdoor", sum := "856c56d72352225f982d572caf080b7ea98edd2654f3fbb91b03673928f42b18", func := "ogive/ogivelaw14.GraphFits", spec := "graphFits", inPlace := ["internal/bytealg.IndexByteString", "internal/bytealg.IndexString", "internal/abi.NoEscape", "internal/bytealg.abigen_runtime_cmpstring", "internal/bytealg.CountString", "internal/bytealg.MakeNoZero"], unfollowed := true, recurses := true, named := ["internal/bytealg.MaxLen", "unicode/utf8.first", "unicode/utf8.acceptRanges"], plainKeys := false, apart := false, laid := [("unicode/utf8.acceptRanges", laid_unicode_utf8_acceptRanges), ("unicode/utf8.first", laid_unicode_utf8_first)] }
def GraphFitsSaid : Prop := graphFitsRow.holds Tryz.pinned (OpenSpec.ofChange graphFitsSpec)

/-- ITS FALSE NEIGHBOUR: 'it returns false'. Refute it at one input. -/
def graphFitsWrong : ChangeSpec := { name := "graphFits", fn := fun _ => fun
  | [d1, d2] => { results := [.lit (.bool false)], args := [d1, d2] }
  | _ => none }
def GraphFitsWrongFalsely : Prop := graphFitsRow.holds Tryz.pinned (OpenSpec.ofChange graphFitsWrong)

/-- 'ogivelaw14.GraphRows': WHATEVER THE INPUT: true; the input reads as it did. -/
def graphRowsSpec : ChangeSpec := { name := "graphRows", fn := fun _ => fun
  | [d1, d2, d3] => { results := [.lit (.bool true)], args := [d1, d2, d3] }
  | _ => none }
def graphRowsRow : OpenClaim := { program := "ytlfhmiekaegfgaagreatdoor", sum := "856c56d72352225f982d572caf080b7ea98edd2654f3fbb91b03673928f42b18", func := "ogive/ogivelaw14.GraphRows", spec := "graphRows", inPlace := ["internal/bytealg.IndexByteString", "internal/bytealg.IndexString", "internal/abi.NoEscape", "internal/bytealg.abigen_runtime_cmpstring", "internal/bytealg.CountString", "internal/bytealg.MakeNoZero"], unfollowed := true, recurses := true, named := ["internal/bytealg.MaxLen", "unicode/utf8.first", "unicode/utf8.acceptRanges"], plainKeys := false, apart := false, laid := [("unicode/utf8.acceptRanges", laid_unicode_utf8_acceptRanges), ("unicode/utf8.first", laid_unicode_utf8_first)] }
def GraphRowsSaid : Prop := graphRowsRow.holds Tryz.pinned (OpenSpec.ofChange graphRowsSpec)

/-- ITS FALSE NEIGHBOUR: 'it returns false'. Refute it at one input. -/
def graphRowsWrong : ChangeSpec := { name := "graphRows", fn := fun _ => fun
  | [d1, d2, d3] => { results := [.lit (.bool false)], args := [d1, d2, d3] }
  | _ => none }
def GraphRowsWrongFalsely : Prop := graphRowsRow.holds Tryz.pinned (OpenSpec.ofChange graphRowsWrong)

/-- 'ogivelaw15.OpSteps': WHATEVER THE INPUT: true; the input reads as it did. -/
def opStepsSpec : ChangeSpec := { name := "opSteps", fn := fun _ => fun
  | [d1, d2, d3] => { results := [.lit (.bool true)], args := [d1, d2, d3] }
  | _ => none }
def opStepsRow : OpenClaim := { program := "ytlfhmiekaegfgaagreatdoor", sum := "856c56d72352225f982d572caf080b7ea98edd2654f3fbb91b03673928f42b18", func := "ogive/ogivelaw15.OpSteps", spec := "opSteps", inPlace := ["internal/bytealg.IndexByteString", "internal/bytealg.IndexString", "internal/abi.NoEscape", "internal/bytealg.abigen_runtime_cmpstring", "internal/bytealg.CountString", "internal/bytealg.MakeNoZero", "slices.overlaps[ogive/graph.Entry]"], unfollowed := true, recurses := true, named := ["internal/bytealg.MaxLen", "unicode/utf8.first", "unicode/utf8.acceptRanges"], plainKeys := false, apart := false, laid := [("unicode/utf8.acceptRanges", laid_unicode_utf8_acceptRanges), ("unicode/utf8.first", laid_unicode_utf8_first)] }
def OpStepsSaid : Prop := opStepsRow.holds Tryz.pinned (OpenSpec.ofChange opStepsSpec)

/-- ITS FALSE NEIGHBOUR: 'it returns false'. Refute it at one input. -/
def opStepsWrong : ChangeSpec := { name := "opSteps", fn := fun _ => fun
  | [d1, d2, d3] => { results := [.lit (.bool false)], args := [d1, d2, d3] }
  | _ => none }
def OpStepsWrongFalsely : Prop := opStepsRow.holds Tryz.pinned (OpenSpec.ofChange opStepsWrong)

/-- 'ogivelaw15.OpRanges': WHATEVER THE INPUT: true; the input reads as it did. -/
def opRangesSpec : ChangeSpec := { name := "opRanges", fn := fun _ => fun
  | [d1, d2, d3] => { results := [.lit (.bool true)], args := [d1, d2, d3] }
  | _ => none }
def opRangesRow : OpenClaim := { program := "ytlfhmiekaegfgaagreatdoor", sum := "856c56d72352225f982d572caf080b7ea98edd2654f3fbb91b03673928f42b18", func := "ogive/ogivelaw15.OpRanges", spec := "opRanges", inPlace := ["internal/bytealg.IndexByteString", "internal/bytealg.IndexString", "internal/abi.NoEscape", "internal/bytealg.abigen_runtime_cmpstring", "internal/bytealg.CountString", "internal/bytealg.MakeNoZero", "slices.overlaps[ogive/graph.Entry]"], unfollowed := true, recurses := true, named := ["internal/bytealg.MaxLen", "unicode/utf8.first", "unicode/utf8.acceptRanges"], plainKeys := false, apart := false, laid := [("unicode/utf8.acceptRanges", laid_unicode_utf8_acceptRanges), ("unicode/utf8.first", laid_unicode_utf8_first)] }
def OpRangesSaid : Prop := opRangesRow.holds Tryz.pinned (OpenSpec.ofChange opRangesSpec)

/-- ITS FALSE NEIGHBOUR: 'it returns false'. Refute it at one input. -/
def opRangesWrong : ChangeSpec := { name := "opRanges", fn := fun _ => fun
  | [d1, d2, d3] => { results := [.lit (.bool false)], args := [d1, d2, d3] }
  | _ => none }
def OpRangesWrongFalsely : Prop := opRangesRow.holds Tryz.pinned (OpenSpec.ofChange opRangesWrong)

/-- 'ogivelaw15.OpUnique': WHATEVER THE INPUT: true; the input reads as it did. -/
def opUniqueSpec : ChangeSpec := { name := "opUnique", fn := fun _ => fun
  | [d1, d2, d3] => { results := [.lit (.bool true)], args := [d1, d2, d3] }
  | _ => none }
def opUniqueRow : OpenClaim := { program := "ytlfhmiekaegfgaagreatdoor", sum := "856c56d72352225f982d572caf080b7ea98edd2654f3fbb91b03673928f42b18", func := "ogive/ogivelaw15.OpUnique", spec := "opUnique", inPlace := ["internal/bytealg.IndexByteString", "internal/bytealg.IndexString", "internal/abi.NoEscape", "internal/bytealg.abigen_runtime_cmpstring", "internal/bytealg.CountString", "internal/bytealg.MakeNoZero", "slices.overlaps[ogive/graph.Entry]"], unfollowed := true, recurses := true, named := ["internal/bytealg.MaxLen", "unicode/utf8.first", "unicode/utf8.acceptRanges"], plainKeys := false, apart := false, laid := [("unicode/utf8.acceptRanges", laid_unicode_utf8_acceptRanges), ("unicode/utf8.first", laid_unicode_utf8_first)] }
def OpUniqueSaid : Prop := opUniqueRow.holds Tryz.pinned (OpenSpec.ofChange opUniqueSpec)

/-- ITS FALSE NEIGHBOUR: 'it returns false'. Refute it at one input. -/
def opUniqueWrong : ChangeSpec := { name := "opUnique", fn := fun _ => fun
  | [d1, d2, d3] => { results := [.lit (.bool false)], args := [d1, d2, d3] }
  | _ => none }
def OpUniqueWrongFalsely : Prop := opUniqueRow.holds Tryz.pinned (OpenSpec.ofChange opUniqueWrong)

/-- 'ogivelaw16.ProgRuns': WHATEVER THE INPUT: true; the input reads as it did. -/
def progRunsSpec : ChangeSpec := { name := "progRuns", fn := fun _ => fun
  | [d1, d2, d3] => { results := [.lit (.bool true)], args := [d1, d2, d3] }
  | _ => none }
def progRunsRow : OpenClaim := { program := "ytlfhmiekaegfgaagreatdoor", sum := "856c56d72352225f982d572caf080b7ea98edd2654f3fbb91b03673928f42b18", func := "ogive/ogivelaw16.ProgRuns", spec := "progRuns", inPlace := ["maps.clone", "internal/bytealg.IndexByteString", "internal/bytealg.IndexString", "internal/abi.NoEscape", "internal/bytealg.abigen_runtime_cmpstring", "internal/bytealg.CountString", "internal/bytealg.MakeNoZero", "slices.overlaps[ogive/graph.Entry]"], unfollowed := true, recurses := true, named := ["internal/bytealg.MaxLen", "unicode/utf8.first", "unicode/utf8.acceptRanges"], plainKeys := false, apart := false, laid := [("unicode/utf8.acceptRanges", laid_unicode_utf8_acceptRanges), ("unicode/utf8.first", laid_unicode_utf8_first)] }
def ProgRunsSaid : Prop := progRunsRow.holds Tryz.pinned (OpenSpec.ofChange progRunsSpec)

/-- ITS FALSE NEIGHBOUR: 'it returns false'. Refute it at one input. -/
def progRunsWrong : ChangeSpec := { name := "progRuns", fn := fun _ => fun
  | [d1, d2, d3] => { results := [.lit (.bool false)], args := [d1, d2, d3] }
  | _ => none }
def ProgRunsWrongFalsely : Prop := progRunsRow.holds Tryz.pinned (OpenSpec.ofChange progRunsWrong)

/-- 'ogivelaw16.ProgJoins': WHATEVER THE INPUT: true; the input reads as it did. -/
def progJoinsSpec : ChangeSpec := { name := "progJoins", fn := fun _ => fun
  | [d1, d2] => { results := [.lit (.bool true)], args := [d1, d2] }
  | _ => none }
def progJoinsRow : OpenClaim := { program := "ytlfhmiekaegfgaagreatdoor", sum := "856c56d72352225f982d572caf080b7ea98edd2654f3fbb91b03673928f42b18", func := "ogive/ogivelaw16.ProgJoins", spec := "progJoins", inPlace := ["maps.clone", "internal/bytealg.IndexByteString", "internal/bytealg.IndexString", "internal/abi.NoEscape", "internal/bytealg.abigen_runtime_cmpstring", "internal/bytealg.CountString", "internal/bytealg.MakeNoZero", "slices.overlaps[ogive/graph.Entry]"], unfollowed := true, recurses := true, named := ["internal/bytealg.MaxLen", "unicode/utf8.first", "unicode/utf8.acceptRanges"], plainKeys := false, apart := false, laid := [("unicode/utf8.acceptRanges", laid_unicode_utf8_acceptRanges), ("unicode/utf8.first", laid_unicode_utf8_first)] }
def ProgJoinsSaid : Prop := progJoinsRow.holds Tryz.pinned (OpenSpec.ofChange progJoinsSpec)

/-- ITS FALSE NEIGHBOUR: 'it returns false'. Refute it at one input. -/
def progJoinsWrong : ChangeSpec := { name := "progJoins", fn := fun _ => fun
  | [d1, d2] => { results := [.lit (.bool false)], args := [d1, d2] }
  | _ => none }
def ProgJoinsWrongFalsely : Prop := progJoinsRow.holds Tryz.pinned (OpenSpec.ofChange progJoinsWrong)

/-- 'ogivelaw16.ProgChecks': WHATEVER THE INPUT: true; the input reads as it did. -/
def progChecksSpec : ChangeSpec := { name := "progChecks", fn := fun _ => fun
  | [d1, d2, d3] => { results := [.lit (.bool true)], args := [d1, d2, d3] }
  | _ => none }
def progChecksRow : OpenClaim := { program := "ytlfhmiekaegfgaagreatdoor", sum := "856c56d72352225f982d572caf080b7ea98edd2654f3fbb91b03673928f42b18", func := "ogive/ogivelaw16.ProgChecks", spec := "progChecks", inPlace := ["maps.clone", "internal/bytealg.IndexByteString", "internal/bytealg.IndexString", "internal/abi.NoEscape", "internal/bytealg.abigen_runtime_cmpstring", "internal/bytealg.CountString", "internal/bytealg.MakeNoZero", "slices.overlaps[ogive/graph.Entry]"], unfollowed := true, recurses := true, named := ["internal/bytealg.MaxLen", "unicode/utf8.first", "unicode/utf8.acceptRanges"], plainKeys := false, apart := false, laid := [("unicode/utf8.acceptRanges", laid_unicode_utf8_acceptRanges), ("unicode/utf8.first", laid_unicode_utf8_first)] }
def ProgChecksSaid : Prop := progChecksRow.holds Tryz.pinned (OpenSpec.ofChange progChecksSpec)

/-- ITS FALSE NEIGHBOUR: 'it returns false'. Refute it at one input. -/
def progChecksWrong : ChangeSpec := { name := "progChecks", fn := fun _ => fun
  | [d1, d2, d3] => { results := [.lit (.bool false)], args := [d1, d2, d3] }
  | _ => none }
def ProgChecksWrongFalsely : Prop := progChecksRow.holds Tryz.pinned (OpenSpec.ofChange progChecksWrong)

/-- 'ogivelaw15.OpDoes': WHATEVER THE INPUT: true; the input reads as it did. -/
def opDoesSpec : ChangeSpec := { name := "opDoes", fn := fun _ => fun
  | [d1, d2, d3] => { results := [.lit (.bool true)], args := [d1, d2, d3] }
  | _ => none }
def opDoesRow : OpenClaim := { program := "ytlfhmiekaegfgaagreatdoor", sum := "856c56d72352225f982d572caf080b7ea98edd2654f3fbb91b03673928f42b18", func := "ogive/ogivelaw15.OpDoes", spec := "opDoes", inPlace := ["internal/bytealg.IndexByteString", "internal/bytealg.IndexString", "internal/abi.NoEscape", "internal/bytealg.abigen_runtime_cmpstring", "internal/bytealg.CountString", "internal/bytealg.MakeNoZero", "slices.overlaps[ogive/graph.Entry]"], unfollowed := true, recurses := true, named := ["internal/bytealg.MaxLen", "unicode/utf8.first", "unicode/utf8.acceptRanges"], plainKeys := false, apart := false, laid := [("unicode/utf8.acceptRanges", laid_unicode_utf8_acceptRanges), ("unicode/utf8.first", laid_unicode_utf8_first)] }
def OpDoesSaid : Prop := opDoesRow.holds Tryz.pinned (OpenSpec.ofChange opDoesSpec)

/-- ITS FALSE NEIGHBOUR: 'it returns false'. Refute it at one input. -/
def opDoesWrong : ChangeSpec := { name := "opDoes", fn := fun _ => fun
  | [d1, d2, d3] => { results := [.lit (.bool false)], args := [d1, d2, d3] }
  | _ => none }
def OpDoesWrongFalsely : Prop := opDoesRow.holds Tryz.pinned (OpenSpec.ofChange opDoesWrong)

/-- 'ogivelaw15.OpFits': WHATEVER THE INPUT: true; the input reads as it did. -/
def opFitsSpec : ChangeSpec := { name := "opFits", fn := fun _ => fun
  | [d1, d2, d3] => { results := [.lit (.bool true)], args := [d1, d2, d3] }
  | _ => none }
def opFitsRow : OpenClaim := { program := "ytlfhmiekaegfgaagreatdoor", sum := "856c56d72352225f982d572caf080b7ea98edd2654f3fbb91b03673928f42b18", func := "ogive/ogivelaw15.OpFits", spec := "opFits", inPlace := ["internal/bytealg.IndexByteString", "internal/bytealg.IndexString", "internal/abi.NoEscape", "internal/bytealg.abigen_runtime_cmpstring", "internal/bytealg.CountString", "internal/bytealg.MakeNoZero", "slices.overlaps[ogive/graph.Entry]"], unfollowed := true, recurses := true, named := ["internal/bytealg.MaxLen", "unicode/utf8.first", "unicode/utf8.acceptRanges"], plainKeys := false, apart := false, laid := [("unicode/utf8.acceptRanges", laid_unicode_utf8_acceptRanges), ("unicode/utf8.first", laid_unicode_utf8_first)] }
def OpFitsSaid : Prop := opFitsRow.holds Tryz.pinned (OpenSpec.ofChange opFitsSpec)

/-- ITS FALSE NEIGHBOUR: 'it returns false'. Refute it at one input. -/
def opFitsWrong : ChangeSpec := { name := "opFits", fn := fun _ => fun
  | [d1, d2, d3] => { results := [.lit (.bool false)], args := [d1, d2, d3] }
  | _ => none }
def OpFitsWrongFalsely : Prop := opFitsRow.holds Tryz.pinned (OpenSpec.ofChange opFitsWrong)

/-- 'ogivelaw15.OpReads': WHATEVER THE INPUT: true; the input reads as it did. -/
def opReadsSpec : ChangeSpec := { name := "opReads", fn := fun _ => fun
  | [d1, d2] => { results := [.lit (.bool true)], args := [d1, d2] }
  | _ => none }
def opReadsRow : OpenClaim := { program := "ytlfhmiekaegfgaagreatdoor", sum := "856c56d72352225f982d572caf080b7ea98edd2654f3fbb91b03673928f42b18", func := "ogive/ogivelaw15.OpReads", spec := "opReads", inPlace := ["internal/bytealg.IndexByteString", "internal/bytealg.IndexString", "internal/abi.NoEscape", "internal/bytealg.abigen_runtime_cmpstring", "internal/bytealg.CountString", "internal/bytealg.MakeNoZero", "slices.overlaps[ogive/graph.Entry]"], unfollowed := true, recurses := true, named := ["internal/bytealg.MaxLen", "unicode/utf8.first", "unicode/utf8.acceptRanges"], plainKeys := false, apart := false, laid := [("unicode/utf8.acceptRanges", laid_unicode_utf8_acceptRanges), ("unicode/utf8.first", laid_unicode_utf8_first)] }
def OpReadsSaid : Prop := opReadsRow.holds Tryz.pinned (OpenSpec.ofChange opReadsSpec)

/-- ITS FALSE NEIGHBOUR: 'it returns false'. Refute it at one input. -/
def opReadsWrong : ChangeSpec := { name := "opReads", fn := fun _ => fun
  | [d1, d2] => { results := [.lit (.bool false)], args := [d1, d2] }
  | _ => none }
def OpReadsWrongFalsely : Prop := opReadsRow.holds Tryz.pinned (OpenSpec.ofChange opReadsWrong)

/-- 'ogivelaw15.OpBack': WHATEVER THE INPUT: true; the input reads as it did. -/
def opBackSpec : ChangeSpec := { name := "opBack", fn := fun _ => fun
  | [d1, d2] => { results := [.lit (.bool true)], args := [d1, d2] }
  | _ => none }
def opBackRow : OpenClaim := { program := "ytlfhmiekaegfgaagreatdoor", sum := "856c56d72352225f982d572caf080b7ea98edd2654f3fbb91b03673928f42b18", func := "ogive/ogivelaw15.OpBack", spec := "opBack", inPlace := ["internal/bytealg.IndexByteString", "internal/bytealg.IndexString", "internal/abi.NoEscape", "internal/bytealg.abigen_runtime_cmpstring", "internal/bytealg.CountString", "internal/bytealg.MakeNoZero", "slices.overlaps[ogive/graph.Entry]"], unfollowed := true, recurses := true, named := ["internal/bytealg.MaxLen", "unicode/utf8.first", "unicode/utf8.acceptRanges"], plainKeys := false, apart := false, laid := [("unicode/utf8.acceptRanges", laid_unicode_utf8_acceptRanges), ("unicode/utf8.first", laid_unicode_utf8_first)] }
def OpBackSaid : Prop := opBackRow.holds Tryz.pinned (OpenSpec.ofChange opBackSpec)

/-- ITS FALSE NEIGHBOUR: 'it returns false'. Refute it at one input. -/
def opBackWrong : ChangeSpec := { name := "opBack", fn := fun _ => fun
  | [d1, d2] => { results := [.lit (.bool false)], args := [d1, d2] }
  | _ => none }
def OpBackWrongFalsely : Prop := opBackRow.holds Tryz.pinned (OpenSpec.ofChange opBackWrong)

/-- 'ogivelaw16.ProgEffect': WHATEVER THE INPUT: true; the input reads as it did. -/
def progEffectSpec : ChangeSpec := { name := "progEffect", fn := fun _ => fun
  | [d1, d2, d3] => { results := [.lit (.bool true)], args := [d1, d2, d3] }
  | _ => none }
def progEffectRow : OpenClaim := { program := "ytlfhmiekaegfgaagreatdoor", sum := "856c56d72352225f982d572caf080b7ea98edd2654f3fbb91b03673928f42b18", func := "ogive/ogivelaw16.ProgEffect", spec := "progEffect", inPlace := ["maps.clone", "internal/bytealg.IndexByteString", "internal/bytealg.IndexString", "internal/abi.NoEscape", "internal/bytealg.abigen_runtime_cmpstring", "internal/bytealg.CountString", "internal/bytealg.MakeNoZero", "slices.overlaps[ogive/graph.Entry]"], unfollowed := true, recurses := true, named := ["internal/bytealg.MaxLen", "unicode/utf8.first", "unicode/utf8.acceptRanges"], plainKeys := false, apart := false, laid := [("unicode/utf8.acceptRanges", laid_unicode_utf8_acceptRanges), ("unicode/utf8.first", laid_unicode_utf8_first)] }
def ProgEffectSaid : Prop := progEffectRow.holds Tryz.pinned (OpenSpec.ofChange progEffectSpec)

/-- ITS FALSE NEIGHBOUR: 'it returns false'. Refute it at one input. -/
def progEffectWrong : ChangeSpec := { name := "progEffect", fn := fun _ => fun
  | [d1, d2, d3] => { results := [.lit (.bool false)], args := [d1, d2, d3] }
  | _ => none }
def ProgEffectWrongFalsely : Prop := progEffectRow.holds Tryz.pinned (OpenSpec.ofChange progEffectWrong)

/-- 'ogivelaw16.ProgApplies': WHATEVER THE INPUT: true; the input reads as it did. -/
def progAppliesSpec : ChangeSpec := { name := "progApplies", fn := fun _ => fun
  | [d1, d2] => { results := [.lit (.bool true)], args := [d1, d2] }
  | _ => none }
def progAppliesRow : OpenClaim := { program := "ytlfhmiekaegfgaagreatdoor", sum := "856c56d72352225f982d572caf080b7ea98edd2654f3fbb91b03673928f42b18", func := "ogive/ogivelaw16.ProgApplies", spec := "progApplies", inPlace := ["maps.clone", "internal/bytealg.IndexByteString", "internal/bytealg.IndexString", "internal/abi.NoEscape", "internal/bytealg.abigen_runtime_cmpstring", "internal/bytealg.CountString", "internal/bytealg.MakeNoZero", "slices.overlaps[ogive/graph.Entry]"], unfollowed := true, recurses := true, named := ["internal/bytealg.MaxLen", "unicode/utf8.first", "unicode/utf8.acceptRanges"], plainKeys := false, apart := false, laid := [("unicode/utf8.acceptRanges", laid_unicode_utf8_acceptRanges), ("unicode/utf8.first", laid_unicode_utf8_first)] }
def ProgAppliesSaid : Prop := progAppliesRow.holds Tryz.pinned (OpenSpec.ofChange progAppliesSpec)

/-- ITS FALSE NEIGHBOUR: 'it returns false'. Refute it at one input. -/
def progAppliesWrong : ChangeSpec := { name := "progApplies", fn := fun _ => fun
  | [d1, d2] => { results := [.lit (.bool false)], args := [d1, d2] }
  | _ => none }
def ProgAppliesWrongFalsely : Prop := progAppliesRow.holds Tryz.pinned (OpenSpec.ofChange progAppliesWrong)

/-- 'ogivelaw16.ProgWhole': WHATEVER THE INPUT: true; the input reads as it did. -/
def progWholeSpec : ChangeSpec := { name := "progWhole", fn := fun _ => fun
  | [d1, d2, d3] => { results := [.lit (.bool true)], args := [d1, d2, d3] }
  | _ => none }
def progWholeRow : OpenClaim := { program := "ytlfhmiekaegfgaagreatdoor", sum := "856c56d72352225f982d572caf080b7ea98edd2654f3fbb91b03673928f42b18", func := "ogive/ogivelaw16.ProgWhole", spec := "progWhole", inPlace := ["maps.clone", "internal/bytealg.IndexByteString", "internal/bytealg.IndexString", "internal/abi.NoEscape", "internal/bytealg.abigen_runtime_cmpstring", "internal/bytealg.CountString", "internal/bytealg.MakeNoZero", "slices.overlaps[ogive/graph.Entry]"], unfollowed := true, recurses := true, named := ["internal/bytealg.MaxLen", "unicode/utf8.first", "unicode/utf8.acceptRanges"], plainKeys := false, apart := false, laid := [("unicode/utf8.acceptRanges", laid_unicode_utf8_acceptRanges), ("unicode/utf8.first", laid_unicode_utf8_first)] }
def ProgWholeSaid : Prop := progWholeRow.holds Tryz.pinned (OpenSpec.ofChange progWholeSpec)

/-- ITS FALSE NEIGHBOUR: 'it returns false'. Refute it at one input. -/
def progWholeWrong : ChangeSpec := { name := "progWhole", fn := fun _ => fun
  | [d1, d2, d3] => { results := [.lit (.bool false)], args := [d1, d2, d3] }
  | _ => none }
def ProgWholeWrongFalsely : Prop := progWholeRow.holds Tryz.pinned (OpenSpec.ofChange progWholeWrong)

/-- 'ogivelaw17.TxnNeeds': WHATEVER THE INPUT: true; the input reads as it did. -/
def txnNeedsSpec : ChangeSpec := { name := "txnNeeds", fn := fun _ => fun
  | [d1, d2] => { results := [.lit (.bool true)], args := [d1, d2] }
  | _ => none }
def txnNeedsRow : OpenClaim := { program := "ytlfhmiekaegfgaagreatdoor", sum := "856c56d72352225f982d572caf080b7ea98edd2654f3fbb91b03673928f42b18", func := "ogive/ogivelaw17.TxnNeeds", spec := "txnNeeds", inPlace := ["internal/bytealg.IndexByteString", "internal/bytealg.IndexString", "internal/abi.NoEscape", "internal/bytealg.abigen_runtime_cmpstring", "internal/bytealg.CountString", "internal/bytealg.MakeNoZero", "slices.overlaps[ogive/graph.Entry]"], unfollowed := true, recurses := true, named := ["internal/bytealg.MaxLen", "unicode/utf8.first", "unicode/utf8.acceptRanges"], plainKeys := false, apart := false, laid := [("unicode/utf8.acceptRanges", laid_unicode_utf8_acceptRanges), ("unicode/utf8.first", laid_unicode_utf8_first)] }
def TxnNeedsSaid : Prop := txnNeedsRow.holds Tryz.pinned (OpenSpec.ofChange txnNeedsSpec)

/-- ITS FALSE NEIGHBOUR: 'it returns false'. Refute it at one input. -/
def txnNeedsWrong : ChangeSpec := { name := "txnNeeds", fn := fun _ => fun
  | [d1, d2] => { results := [.lit (.bool false)], args := [d1, d2] }
  | _ => none }
def TxnNeedsWrongFalsely : Prop := txnNeedsRow.holds Tryz.pinned (OpenSpec.ofChange txnNeedsWrong)

/-- 'ogivelaw17.TxnSteps': WHATEVER THE INPUT: true; the input reads as it did. -/
def txnStepsSpec : ChangeSpec := { name := "txnSteps", fn := fun _ => fun
  | [d1, d2, d3] => { results := [.lit (.bool true)], args := [d1, d2, d3] }
  | _ => none }
def txnStepsRow : OpenClaim := { program := "ytlfhmiekaegfgaagreatdoor", sum := "856c56d72352225f982d572caf080b7ea98edd2654f3fbb91b03673928f42b18", func := "ogive/ogivelaw17.TxnSteps", spec := "txnSteps", inPlace := ["internal/bytealg.IndexByteString", "internal/bytealg.IndexString", "internal/abi.NoEscape", "internal/bytealg.abigen_runtime_cmpstring", "internal/bytealg.CountString", "internal/bytealg.MakeNoZero", "slices.overlaps[ogive/graph.Entry]"], unfollowed := true, recurses := true, named := ["internal/bytealg.MaxLen", "unicode/utf8.first", "unicode/utf8.acceptRanges"], plainKeys := false, apart := false, laid := [("unicode/utf8.acceptRanges", laid_unicode_utf8_acceptRanges), ("unicode/utf8.first", laid_unicode_utf8_first)] }
def TxnStepsSaid : Prop := txnStepsRow.holds Tryz.pinned (OpenSpec.ofChange txnStepsSpec)

/-- ITS FALSE NEIGHBOUR: 'it returns false'. Refute it at one input. -/
def txnStepsWrong : ChangeSpec := { name := "txnSteps", fn := fun _ => fun
  | [d1, d2, d3] => { results := [.lit (.bool false)], args := [d1, d2, d3] }
  | _ => none }
def TxnStepsWrongFalsely : Prop := txnStepsRow.holds Tryz.pinned (OpenSpec.ofChange txnStepsWrong)

/-- 'ogivelaw17.TxnView': WHATEVER THE INPUT: true; the input reads as it did. -/
def txnViewSpec : ChangeSpec := { name := "txnView", fn := fun _ => fun
  | [d1, d2, d3] => { results := [.lit (.bool true)], args := [d1, d2, d3] }
  | _ => none }
def txnViewRow : OpenClaim := { program := "ytlfhmiekaegfgaagreatdoor", sum := "856c56d72352225f982d572caf080b7ea98edd2654f3fbb91b03673928f42b18", func := "ogive/ogivelaw17.TxnView", spec := "txnView", inPlace := ["internal/bytealg.IndexByteString", "internal/bytealg.IndexString", "internal/abi.NoEscape", "internal/bytealg.abigen_runtime_cmpstring", "internal/bytealg.CountString", "internal/bytealg.MakeNoZero", "slices.overlaps[ogive/graph.Entry]"], unfollowed := true, recurses := true, named := ["internal/bytealg.MaxLen", "unicode/utf8.first", "unicode/utf8.acceptRanges"], plainKeys := false, apart := false, laid := [("unicode/utf8.acceptRanges", laid_unicode_utf8_acceptRanges), ("unicode/utf8.first", laid_unicode_utf8_first)] }
def TxnViewSaid : Prop := txnViewRow.holds Tryz.pinned (OpenSpec.ofChange txnViewSpec)

/-- ITS FALSE NEIGHBOUR: 'it returns false'. Refute it at one input. -/
def txnViewWrong : ChangeSpec := { name := "txnView", fn := fun _ => fun
  | [d1, d2, d3] => { results := [.lit (.bool false)], args := [d1, d2, d3] }
  | _ => none }
def TxnViewWrongFalsely : Prop := txnViewRow.holds Tryz.pinned (OpenSpec.ofChange txnViewWrong)

/-- 'ogivelaw17.TxnTells': WHATEVER THE INPUT: true; the input reads as it did. -/
def txnTellsSpec : ChangeSpec := { name := "txnTells", fn := fun _ => fun
  | [d1, d2, d3] => { results := [.lit (.bool true)], args := [d1, d2, d3] }
  | _ => none }
def txnTellsRow : OpenClaim := { program := "ytlfhmiekaegfgaagreatdoor", sum := "856c56d72352225f982d572caf080b7ea98edd2654f3fbb91b03673928f42b18", func := "ogive/ogivelaw17.TxnTells", spec := "txnTells", inPlace := ["internal/bytealg.IndexByteString", "internal/bytealg.IndexString", "internal/abi.NoEscape", "internal/bytealg.abigen_runtime_cmpstring", "internal/bytealg.CountString", "internal/bytealg.MakeNoZero", "slices.overlaps[ogive/graph.Entry]"], unfollowed := true, recurses := true, named := ["internal/bytealg.MaxLen", "unicode/utf8.first", "unicode/utf8.acceptRanges"], plainKeys := false, apart := false, laid := [("unicode/utf8.acceptRanges", laid_unicode_utf8_acceptRanges), ("unicode/utf8.first", laid_unicode_utf8_first)] }
def TxnTellsSaid : Prop := txnTellsRow.holds Tryz.pinned (OpenSpec.ofChange txnTellsSpec)

/-- ITS FALSE NEIGHBOUR: 'it returns false'. Refute it at one input. -/
def txnTellsWrong : ChangeSpec := { name := "txnTells", fn := fun _ => fun
  | [d1, d2, d3] => { results := [.lit (.bool false)], args := [d1, d2, d3] }
  | _ => none }
def TxnTellsWrongFalsely : Prop := txnTellsRow.holds Tryz.pinned (OpenSpec.ofChange txnTellsWrong)

/-- 'ogivelaw17.TxnBetween': WHATEVER THE INPUT: true; the input reads as it did. -/
def txnBetweenSpec : ChangeSpec := { name := "txnBetween", fn := fun _ => fun
  | [d1, d2, d3] => { results := [.lit (.bool true)], args := [d1, d2, d3] }
  | _ => none }
def txnBetweenRow : OpenClaim := { program := "ytlfhmiekaegfgaagreatdoor", sum := "856c56d72352225f982d572caf080b7ea98edd2654f3fbb91b03673928f42b18", func := "ogive/ogivelaw17.TxnBetween", spec := "txnBetween", inPlace := ["internal/bytealg.IndexByteString", "internal/bytealg.IndexString", "internal/abi.NoEscape", "internal/bytealg.abigen_runtime_cmpstring", "internal/bytealg.CountString", "internal/bytealg.MakeNoZero", "slices.overlaps[ogive/graph.Entry]"], unfollowed := true, recurses := true, named := ["internal/bytealg.MaxLen", "unicode/utf8.first", "unicode/utf8.acceptRanges"], plainKeys := false, apart := false, laid := [("unicode/utf8.acceptRanges", laid_unicode_utf8_acceptRanges), ("unicode/utf8.first", laid_unicode_utf8_first)] }
def TxnBetweenSaid : Prop := txnBetweenRow.holds Tryz.pinned (OpenSpec.ofChange txnBetweenSpec)

/-- ITS FALSE NEIGHBOUR: 'it returns false'. Refute it at one input. -/
def txnBetweenWrong : ChangeSpec := { name := "txnBetween", fn := fun _ => fun
  | [d1, d2, d3] => { results := [.lit (.bool false)], args := [d1, d2, d3] }
  | _ => none }
def TxnBetweenWrongFalsely : Prop := txnBetweenRow.holds Tryz.pinned (OpenSpec.ofChange txnBetweenWrong)

/-- 'ogivelaw17.TxnWrites': WHATEVER THE INPUT: true; the input reads as it did. -/
def txnWritesSpec : ChangeSpec := { name := "txnWrites", fn := fun _ => fun
  | [d1, d2, d3] => { results := [.lit (.bool true)], args := [d1, d2, d3] }
  | _ => none }
def txnWritesRow : OpenClaim := { program := "ytlfhmiekaegfgaagreatdoor", sum := "856c56d72352225f982d572caf080b7ea98edd2654f3fbb91b03673928f42b18", func := "ogive/ogivelaw17.TxnWrites", spec := "txnWrites", inPlace := ["internal/bytealg.IndexByteString", "internal/bytealg.IndexString", "internal/abi.NoEscape", "internal/bytealg.abigen_runtime_cmpstring", "internal/bytealg.CountString", "internal/bytealg.MakeNoZero", "slices.overlaps[ogive/graph.Entry]"], unfollowed := true, recurses := true, named := ["internal/bytealg.MaxLen", "unicode/utf8.first", "unicode/utf8.acceptRanges"], plainKeys := false, apart := false, laid := [("unicode/utf8.acceptRanges", laid_unicode_utf8_acceptRanges), ("unicode/utf8.first", laid_unicode_utf8_first)] }
def TxnWritesSaid : Prop := txnWritesRow.holds Tryz.pinned (OpenSpec.ofChange txnWritesSpec)

/-- ITS FALSE NEIGHBOUR: 'it returns false'. Refute it at one input. -/
def txnWritesWrong : ChangeSpec := { name := "txnWrites", fn := fun _ => fun
  | [d1, d2, d3] => { results := [.lit (.bool false)], args := [d1, d2, d3] }
  | _ => none }
def TxnWritesWrongFalsely : Prop := txnWritesRow.holds Tryz.pinned (OpenSpec.ofChange txnWritesWrong)

/- THE SECOND FORM. 'bulk': how many values and letters a reading holds, each counted each time it is reached (what is shared counts as often as it is met; a slice's spare places count too). A statement '..UptoSaid' is the law's where the arguments, and the package variables that the reading takes, are together of bulk at most 1048576: NARROWER than '..Said'. Prove '..Said' where nothing that the law and all that it calls make is longer than what came in: it says more and counts as full. Else prove '..UptoSaid'. A law counts once. -/
mutual
def uptoBulk {H : Type} : DataW H → Nat
  | .lit (.string bytes) => bytes.length + 1
  | .lit _ => 1
  | .nil => 1
  | .ptr d => uptoBulk d + 1
  | .slice elems spare => uptoBulkAll elems + uptoBulkAll spare + 1
  | .agg parts => uptoBulkAll parts + 1
  | .iface _ d => uptoBulk d + 1
  | .map entries => uptoBulkEntries entries + 1
  | .held _ => 1
def uptoBulkAll {H : Type} : List (DataW H) → Nat
  | [] => 0
  | d :: r => uptoBulk d + uptoBulkAll r
def uptoBulkEntries {H : Type} : List (Lit × DataW H) → Nat
  | [] => 0
  | x :: r => uptoBulkEntry x + uptoBulkEntries r
def uptoBulkEntry {H : Type} : Lit × DataW H → Nat
  | (.string bytes, d) => bytes.length + uptoBulk d + 1
  | (_, d) => uptoBulk d + 1
 end
def uptoSmall : (H : Type) → List (DataW H) → Bool := fun _ ds => decide (uptoBulkAll ds ≤ 1048576)
def OpenSpec.upto (s : _root_.Go.ChangeSpec) : _root_.Go.OpenSpec := { _root_.Go.OpenSpec.ofChange s with cond := some uptoSmall }

/-- 'ogivelaw14.GraphPlays', WHERE WHAT IT READS IS OF BULK AT MOST 1048576: true; the input reads as it did. -/
def graphPlaysUptoRow : OpenClaim := { program := "ytlfhmiekaegfgaagreatdoor", sum := "856c56d72352225f982d572caf080b7ea98edd2654f3fbb91b03673928f42b18", func := "ogive/ogivelaw14.GraphPlays", spec := "graphPlays", inPlace := ["internal/bytealg.IndexByteString", "internal/bytealg.IndexString", "internal/abi.NoEscape", "internal/bytealg.abigen_runtime_cmpstring", "internal/bytealg.CountString", "internal/bytealg.MakeNoZero"], unfollowed := true, recurses := true, named := ["internal/bytealg.MaxLen", "unicode/utf8.first", "unicode/utf8.acceptRanges"], plainKeys := false, apart := false, laid := [("unicode/utf8.acceptRanges", laid_unicode_utf8_acceptRanges), ("unicode/utf8.first", laid_unicode_utf8_first)], narrowed := true }
def GraphPlaysUptoSaid : Prop := graphPlaysUptoRow.holds Tryz.pinned (OpenSpec.upto graphPlaysSpec)

/-- 'ogivelaw14.GraphFits', WHERE WHAT IT READS IS OF BULK AT MOST 1048576: true; the input reads as it did. -/
def graphFitsUptoRow : OpenClaim := { program := "ytlfhmiekaegfgaagreatdoor", sum := "856c56d72352225f982d572caf080b7ea98edd2654f3fbb91b03673928f42b18", func := "ogive/ogivelaw14.GraphFits", spec := "graphFits", inPlace := ["internal/bytealg.IndexByteString", "internal/bytealg.IndexString", "internal/abi.NoEscape", "internal/bytealg.abigen_runtime_cmpstring", "internal/bytealg.CountString", "internal/bytealg.MakeNoZero"], unfollowed := true, recurses := true, named := ["internal/bytealg.MaxLen", "unicode/utf8.first", "unicode/utf8.acceptRanges"], plainKeys := false, apart := false, laid := [("unicode/utf8.acceptRanges", laid_unicode_utf8_acceptRanges), ("unicode/utf8.first", laid_unicode_utf8_first)], narrowed := true }
def GraphFitsUptoSaid : Prop := graphFitsUptoRow.holds Tryz.pinned (OpenSpec.upto graphFitsSpec)

/-- 'ogivelaw14.GraphRows', WHERE WHAT IT READS IS OF BULK AT MOST 1048576: true; the input reads as it did. -/
def graphRowsUptoRow : OpenClaim := { program := "ytlfhmiekaegfgaagreatdoor", sum := "856c56d72352225f982d572caf080b7ea98edd2654f3fbb91b03673928f42b18", func := "ogive/ogivelaw14.GraphRows", spec := "graphRows", inPlace := ["internal/bytealg.IndexByteString", "internal/bytealg.IndexString", "internal/abi.NoEscape", "internal/bytealg.abigen_runtime_cmpstring", "internal/bytealg.CountString", "internal/bytealg.MakeNoZero"], unfollowed := true, recurses := true, named := ["internal/bytealg.MaxLen", "unicode/utf8.first", "unicode/utf8.acceptRanges"], plainKeys := false, apart := false, laid := [("unicode/utf8.acceptRanges", laid_unicode_utf8_acceptRanges), ("unicode/utf8.first", laid_unicode_utf8_first)], narrowed := true }
def GraphRowsUptoSaid : Prop := graphRowsUptoRow.holds Tryz.pinned (OpenSpec.upto graphRowsSpec)

/-- 'ogivelaw15.OpSteps', WHERE WHAT IT READS IS OF BULK AT MOST 1048576: true; the input reads as it did. -/
def opStepsUptoRow : OpenClaim := { program := "ytlfhmiekaegfgaagreatdoor", sum := "856c56d72352225f982d572caf080b7ea98edd2654f3fbb91b03673928f42b18", func := "ogive/ogivelaw15.OpSteps", spec := "opSteps", inPlace := ["internal/bytealg.IndexByteString", "internal/bytealg.IndexString", "internal/abi.NoEscape", "internal/bytealg.abigen_runtime_cmpstring", "internal/bytealg.CountString", "internal/bytealg.MakeNoZero", "slices.overlaps[ogive/graph.Entry]"], unfollowed := true, recurses := true, named := ["internal/bytealg.MaxLen", "unicode/utf8.first", "unicode/utf8.acceptRanges"], plainKeys := false, apart := false, laid := [("unicode/utf8.acceptRanges", laid_unicode_utf8_acceptRanges), ("unicode/utf8.first", laid_unicode_utf8_first)], narrowed := true }
def OpStepsUptoSaid : Prop := opStepsUptoRow.holds Tryz.pinned (OpenSpec.upto opStepsSpec)

/-- 'ogivelaw15.OpRanges', WHERE WHAT IT READS IS OF BULK AT MOST 1048576: true; the input reads as it did. -/
def opRangesUptoRow : OpenClaim := { program := "ytlfhmiekaegfgaagreatdoor", sum := "856c56d72352225f982d572caf080b7ea98edd2654f3fbb91b03673928f42b18", func := "ogive/ogivelaw15.OpRanges", spec := "opRanges", inPlace := ["internal/bytealg.IndexByteString", "internal/bytealg.IndexString", "internal/abi.NoEscape", "internal/bytealg.abigen_runtime_cmpstring", "internal/bytealg.CountString", "internal/bytealg.MakeNoZero", "slices.overlaps[ogive/graph.Entry]"], unfollowed := true, recurses := true, named := ["internal/bytealg.MaxLen", "unicode/utf8.first", "unicode/utf8.acceptRanges"], plainKeys := false, apart := false, laid := [("unicode/utf8.acceptRanges", laid_unicode_utf8_acceptRanges), ("unicode/utf8.first", laid_unicode_utf8_first)], narrowed := true }
def OpRangesUptoSaid : Prop := opRangesUptoRow.holds Tryz.pinned (OpenSpec.upto opRangesSpec)

/-- 'ogivelaw15.OpUnique', WHERE WHAT IT READS IS OF BULK AT MOST 1048576: true; the input reads as it did. -/
def opUniqueUptoRow : OpenClaim := { program := "ytlfhmiekaegfgaagreatdoor", sum := "856c56d72352225f982d572caf080b7ea98edd2654f3fbb91b03673928f42b18", func := "ogive/ogivelaw15.OpUnique", spec := "opUnique", inPlace := ["internal/bytealg.IndexByteString", "internal/bytealg.IndexString", "internal/abi.NoEscape", "internal/bytealg.abigen_runtime_cmpstring", "internal/bytealg.CountString", "internal/bytealg.MakeNoZero", "slices.overlaps[ogive/graph.Entry]"], unfollowed := true, recurses := true, named := ["internal/bytealg.MaxLen", "unicode/utf8.first", "unicode/utf8.acceptRanges"], plainKeys := false, apart := false, laid := [("unicode/utf8.acceptRanges", laid_unicode_utf8_acceptRanges), ("unicode/utf8.first", laid_unicode_utf8_first)], narrowed := true }
def OpUniqueUptoSaid : Prop := opUniqueUptoRow.holds Tryz.pinned (OpenSpec.upto opUniqueSpec)

/-- 'ogivelaw16.ProgRuns', WHERE WHAT IT READS IS OF BULK AT MOST 1048576: true; the input reads as it did. -/
def progRunsUptoRow : OpenClaim := { program := "ytlfhmiekaegfgaagreatdoor", sum := "856c56d72352225f982d572caf080b7ea98edd2654f3fbb91b03673928f42b18", func := "ogive/ogivelaw16.ProgRuns", spec := "progRuns", inPlace := ["maps.clone", "internal/bytealg.IndexByteString", "internal/bytealg.IndexString", "internal/abi.NoEscape", "internal/bytealg.abigen_runtime_cmpstring", "internal/bytealg.CountString", "internal/bytealg.MakeNoZero", "slices.overlaps[ogive/graph.Entry]"], unfollowed := true, recurses := true, named := ["internal/bytealg.MaxLen", "unicode/utf8.first", "unicode/utf8.acceptRanges"], plainKeys := false, apart := false, laid := [("unicode/utf8.acceptRanges", laid_unicode_utf8_acceptRanges), ("unicode/utf8.first", laid_unicode_utf8_first)], narrowed := true }
def ProgRunsUptoSaid : Prop := progRunsUptoRow.holds Tryz.pinned (OpenSpec.upto progRunsSpec)

/-- 'ogivelaw16.ProgJoins', WHERE WHAT IT READS IS OF BULK AT MOST 1048576: true; the input reads as it did. -/
def progJoinsUptoRow : OpenClaim := { program := "ytlfhmiekaegfgaagreatdoor", sum := "856c56d72352225f982d572caf080b7ea98edd2654f3fbb91b03673928f42b18", func := "ogive/ogivelaw16.ProgJoins", spec := "progJoins", inPlace := ["maps.clone", "internal/bytealg.IndexByteString", "internal/bytealg.IndexString", "internal/abi.NoEscape", "internal/bytealg.abigen_runtime_cmpstring", "internal/bytealg.CountString", "internal/bytealg.MakeNoZero", "slices.overlaps[ogive/graph.Entry]"], unfollowed := true, recurses := true, named := ["internal/bytealg.MaxLen", "unicode/utf8.first", "unicode/utf8.acceptRanges"], plainKeys := false, apart := false, laid := [("unicode/utf8.acceptRanges", laid_unicode_utf8_acceptRanges), ("unicode/utf8.first", laid_unicode_utf8_first)], narrowed := true }
def ProgJoinsUptoSaid : Prop := progJoinsUptoRow.holds Tryz.pinned (OpenSpec.upto progJoinsSpec)

/-- 'ogivelaw16.ProgChecks', WHERE WHAT IT READS IS OF BULK AT MOST 1048576: true; the input reads as it did. -/
def progChecksUptoRow : OpenClaim := { program := "ytlfhmiekaegfgaagreatdoor", sum := "856c56d72352225f982d572caf080b7ea98edd2654f3fbb91b03673928f42b18", func := "ogive/ogivelaw16.ProgChecks", spec := "progChecks", inPlace := ["maps.clone", "internal/bytealg.IndexByteString", "internal/bytealg.IndexString", "internal/abi.NoEscape", "internal/bytealg.abigen_runtime_cmpstring", "internal/bytealg.CountString", "internal/bytealg.MakeNoZero", "slices.overlaps[ogive/graph.Entry]"], unfollowed := true, recurses := true, named := ["internal/bytealg.MaxLen", "unicode/utf8.first", "unicode/utf8.acceptRanges"], plainKeys := false, apart := false, laid := [("unicode/utf8.acceptRanges", laid_unicode_utf8_acceptRanges), ("unicode/utf8.first", laid_unicode_utf8_first)], narrowed := true }
def ProgChecksUptoSaid : Prop := progChecksUptoRow.holds Tryz.pinned (OpenSpec.upto progChecksSpec)

/-- 'ogivelaw15.OpDoes', WHERE WHAT IT READS IS OF BULK AT MOST 1048576: true; the input reads as it did. -/
def opDoesUptoRow : OpenClaim := { program := "ytlfhmiekaegfgaagreatdoor", sum := "856c56d72352225f982d572caf080b7ea98edd2654f3fbb91b03673928f42b18", func := "ogive/ogivelaw15.OpDoes", spec := "opDoes", inPlace := ["internal/bytealg.IndexByteString", "internal/bytealg.IndexString", "internal/abi.NoEscape", "internal/bytealg.abigen_runtime_cmpstring", "internal/bytealg.CountString", "internal/bytealg.MakeNoZero", "slices.overlaps[ogive/graph.Entry]"], unfollowed := true, recurses := true, named := ["internal/bytealg.MaxLen", "unicode/utf8.first", "unicode/utf8.acceptRanges"], plainKeys := false, apart := false, laid := [("unicode/utf8.acceptRanges", laid_unicode_utf8_acceptRanges), ("unicode/utf8.first", laid_unicode_utf8_first)], narrowed := true }
def OpDoesUptoSaid : Prop := opDoesUptoRow.holds Tryz.pinned (OpenSpec.upto opDoesSpec)

/-- 'ogivelaw15.OpFits', WHERE WHAT IT READS IS OF BULK AT MOST 1048576: true; the input reads as it did. -/
def opFitsUptoRow : OpenClaim := { program := "ytlfhmiekaegfgaagreatdoor", sum := "856c56d72352225f982d572caf080b7ea98edd2654f3fbb91b03673928f42b18", func := "ogive/ogivelaw15.OpFits", spec := "opFits", inPlace := ["internal/bytealg.IndexByteString", "internal/bytealg.IndexString", "internal/abi.NoEscape", "internal/bytealg.abigen_runtime_cmpstring", "internal/bytealg.CountString", "internal/bytealg.MakeNoZero", "slices.overlaps[ogive/graph.Entry]"], unfollowed := true, recurses := true, named := ["internal/bytealg.MaxLen", "unicode/utf8.first", "unicode/utf8.acceptRanges"], plainKeys := false, apart := false, laid := [("unicode/utf8.acceptRanges", laid_unicode_utf8_acceptRanges), ("unicode/utf8.first", laid_unicode_utf8_first)], narrowed := true }
def OpFitsUptoSaid : Prop := opFitsUptoRow.holds Tryz.pinned (OpenSpec.upto opFitsSpec)

/-- 'ogivelaw15.OpReads', WHERE WHAT IT READS IS OF BULK AT MOST 1048576: true; the input reads as it did. -/
def opReadsUptoRow : OpenClaim := { program := "ytlfhmiekaegfgaagreatdoor", sum := "856c56d72352225f982d572caf080b7ea98edd2654f3fbb91b03673928f42b18", func := "ogive/ogivelaw15.OpReads", spec := "opReads", inPlace := ["internal/bytealg.IndexByteString", "internal/bytealg.IndexString", "internal/abi.NoEscape", "internal/bytealg.abigen_runtime_cmpstring", "internal/bytealg.CountString", "internal/bytealg.MakeNoZero", "slices.overlaps[ogive/graph.Entry]"], unfollowed := true, recurses := true, named := ["internal/bytealg.MaxLen", "unicode/utf8.first", "unicode/utf8.acceptRanges"], plainKeys := false, apart := false, laid := [("unicode/utf8.acceptRanges", laid_unicode_utf8_acceptRanges), ("unicode/utf8.first", laid_unicode_utf8_first)], narrowed := true }
def OpReadsUptoSaid : Prop := opReadsUptoRow.holds Tryz.pinned (OpenSpec.upto opReadsSpec)

/-- 'ogivelaw15.OpBack', WHERE WHAT IT READS IS OF BULK AT MOST 1048576: true; the input reads as it did. -/
def opBackUptoRow : OpenClaim := { program := "ytlfhmiekaegfgaagreatdoor", sum := "856c56d72352225f982d572caf080b7ea98edd2654f3fbb91b03673928f42b18", func := "ogive/ogivelaw15.OpBack", spec := "opBack", inPlace := ["internal/bytealg.IndexByteString", "internal/bytealg.IndexString", "internal/abi.NoEscape", "internal/bytealg.abigen_runtime_cmpstring", "internal/bytealg.CountString", "internal/bytealg.MakeNoZero", "slices.overlaps[ogive/graph.Entry]"], unfollowed := true, recurses := true, named := ["internal/bytealg.MaxLen", "unicode/utf8.first", "unicode/utf8.acceptRanges"], plainKeys := false, apart := false, laid := [("unicode/utf8.acceptRanges", laid_unicode_utf8_acceptRanges), ("unicode/utf8.first", laid_unicode_utf8_first)], narrowed := true }
def OpBackUptoSaid : Prop := opBackUptoRow.holds Tryz.pinned (OpenSpec.upto opBackSpec)

/-- 'ogivelaw16.ProgEffect', WHERE WHAT IT READS IS OF BULK AT MOST 1048576: true; the input reads as it did. -/
def progEffectUptoRow : OpenClaim := { program := "ytlfhmiekaegfgaagreatdoor", sum := "856c56d72352225f982d572caf080b7ea98edd2654f3fbb91b03673928f42b18", func := "ogive/ogivelaw16.ProgEffect", spec := "progEffect", inPlace := ["maps.clone", "internal/bytealg.IndexByteString", "internal/bytealg.IndexString", "internal/abi.NoEscape", "internal/bytealg.abigen_runtime_cmpstring", "internal/bytealg.CountString", "internal/bytealg.MakeNoZero", "slices.overlaps[ogive/graph.Entry]"], unfollowed := true, recurses := true, named := ["internal/bytealg.MaxLen", "unicode/utf8.first", "unicode/utf8.acceptRanges"], plainKeys := false, apart := false, laid := [("unicode/utf8.acceptRanges", laid_unicode_utf8_acceptRanges), ("unicode/utf8.first", laid_unicode_utf8_first)], narrowed := true }
def ProgEffectUptoSaid : Prop := progEffectUptoRow.holds Tryz.pinned (OpenSpec.upto progEffectSpec)

/-- 'ogivelaw16.ProgApplies', WHERE WHAT IT READS IS OF BULK AT MOST 1048576: true; the input reads as it did. -/
def progAppliesUptoRow : OpenClaim := { program := "ytlfhmiekaegfgaagreatdoor", sum := "856c56d72352225f982d572caf080b7ea98edd2654f3fbb91b03673928f42b18", func := "ogive/ogivelaw16.ProgApplies", spec := "progApplies", inPlace := ["maps.clone", "internal/bytealg.IndexByteString", "internal/bytealg.IndexString", "internal/abi.NoEscape", "internal/bytealg.abigen_runtime_cmpstring", "internal/bytealg.CountString", "internal/bytealg.MakeNoZero", "slices.overlaps[ogive/graph.Entry]"], unfollowed := true, recurses := true, named := ["internal/bytealg.MaxLen", "unicode/utf8.first", "unicode/utf8.acceptRanges"], plainKeys := false, apart := false, laid := [("unicode/utf8.acceptRanges", laid_unicode_utf8_acceptRanges), ("unicode/utf8.first", laid_unicode_utf8_first)], narrowed := true }
def ProgAppliesUptoSaid : Prop := progAppliesUptoRow.holds Tryz.pinned (OpenSpec.upto progAppliesSpec)

/-- 'ogivelaw16.ProgWhole', WHERE WHAT IT READS IS OF BULK AT MOST 1048576: true; the input reads as it did. -/
def progWholeUptoRow : OpenClaim := { program := "ytlfhmiekaegfgaagreatdoor", sum := "856c56d72352225f982d572caf080b7ea98edd2654f3fbb91b03673928f42b18", func := "ogive/ogivelaw16.ProgWhole", spec := "progWhole", inPlace := ["maps.clone", "internal/bytealg.IndexByteString", "internal/bytealg.IndexString", "internal/abi.NoEscape", "internal/bytealg.abigen_runtime_cmpstring", "internal/bytealg.CountString", "internal/bytealg.MakeNoZero", "slices.overlaps[ogive/graph.Entry]"], unfollowed := true, recurses := true, named := ["internal/bytealg.MaxLen", "unicode/utf8.first", "unicode/utf8.acceptRanges"], plainKeys := false, apart := false, laid := [("unicode/utf8.acceptRanges", laid_unicode_utf8_acceptRanges), ("unicode/utf8.first", laid_unicode_utf8_first)], narrowed := true }
def ProgWholeUptoSaid : Prop := progWholeUptoRow.holds Tryz.pinned (OpenSpec.upto progWholeSpec)

/-- 'ogivelaw17.TxnNeeds', WHERE WHAT IT READS IS OF BULK AT MOST 1048576: true; the input reads as it did. -/
def txnNeedsUptoRow : OpenClaim := { program := "ytlfhmiekaegfgaagreatdoor", sum := "856c56d72352225f982d572caf080b7ea98edd2654f3fbb91b03673928f42b18", func := "ogive/ogivelaw17.TxnNeeds", spec := "txnNeeds", inPlace := ["internal/bytealg.IndexByteString", "internal/bytealg.IndexString", "internal/abi.NoEscape", "internal/bytealg.abigen_runtime_cmpstring", "internal/bytealg.CountString", "internal/bytealg.MakeNoZero", "slices.overlaps[ogive/graph.Entry]"], unfollowed := true, recurses := true, named := ["internal/bytealg.MaxLen", "unicode/utf8.first", "unicode/utf8.acceptRanges"], plainKeys := false, apart := false, laid := [("unicode/utf8.acceptRanges", laid_unicode_utf8_acceptRanges), ("unicode/utf8.first", laid_unicode_utf8_first)], narrowed := true }
def TxnNeedsUptoSaid : Prop := txnNeedsUptoRow.holds Tryz.pinned (OpenSpec.upto txnNeedsSpec)

/-- 'ogivelaw17.TxnSteps', WHERE WHAT IT READS IS OF BULK AT MOST 1048576: true; the input reads as it did. -/
def txnStepsUptoRow : OpenClaim := { program := "ytlfhmiekaegfgaagreatdoor", sum := "856c56d72352225f982d572caf080b7ea98edd2654f3fbb91b03673928f42b18", func := "ogive/ogivelaw17.TxnSteps", spec := "txnSteps", inPlace := ["internal/bytealg.IndexByteString", "internal/bytealg.IndexString", "internal/abi.NoEscape", "internal/bytealg.abigen_runtime_cmpstring", "internal/bytealg.CountString", "internal/bytealg.MakeNoZero", "slices.overlaps[ogive/graph.Entry]"], unfollowed := true, recurses := true, named := ["internal/bytealg.MaxLen", "unicode/utf8.first", "unicode/utf8.acceptRanges"], plainKeys := false, apart := false, laid := [("unicode/utf8.acceptRanges", laid_unicode_utf8_acceptRanges), ("unicode/utf8.first", laid_unicode_utf8_first)], narrowed := true }
def TxnStepsUptoSaid : Prop := txnStepsUptoRow.holds Tryz.pinned (OpenSpec.upto txnStepsSpec)

/-- 'ogivelaw17.TxnView', WHERE WHAT IT READS IS OF BULK AT MOST 1048576: true; the input reads as it did. -/
def txnViewUptoRow : OpenClaim := { program := "ytlfhmiekaegfgaagreatdoor", sum := "856c56d72352225f982d572caf080b7ea98edd2654f3fbb91b03673928f42b18", func := "ogive/ogivelaw17.TxnView", spec := "txnView", inPlace := ["internal/bytealg.IndexByteString", "internal/bytealg.IndexString", "internal/abi.NoEscape", "internal/bytealg.abigen_runtime_cmpstring", "internal/bytealg.CountString", "internal/bytealg.MakeNoZero", "slices.overlaps[ogive/graph.Entry]"], unfollowed := true, recurses := true, named := ["internal/bytealg.MaxLen", "unicode/utf8.first", "unicode/utf8.acceptRanges"], plainKeys := false, apart := false, laid := [("unicode/utf8.acceptRanges", laid_unicode_utf8_acceptRanges), ("unicode/utf8.first", laid_unicode_utf8_first)], narrowed := true }
def TxnViewUptoSaid : Prop := txnViewUptoRow.holds Tryz.pinned (OpenSpec.upto txnViewSpec)

/-- 'ogivelaw17.TxnTells', WHERE WHAT IT READS IS OF BULK AT MOST 1048576: true; the input reads as it did. -/
def txnTellsUptoRow : OpenClaim := { program := "ytlfhmiekaegfgaagreatdoor", sum := "856c56d72352225f982d572caf080b7ea98edd2654f3fbb91b03673928f42b18", func := "ogive/ogivelaw17.TxnTells", spec := "txnTells", inPlace := ["internal/bytealg.IndexByteString", "internal/bytealg.IndexString", "internal/abi.NoEscape", "internal/bytealg.abigen_runtime_cmpstring", "internal/bytealg.CountString", "internal/bytealg.MakeNoZero", "slices.overlaps[ogive/graph.Entry]"], unfollowed := true, recurses := true, named := ["internal/bytealg.MaxLen", "unicode/utf8.first", "unicode/utf8.acceptRanges"], plainKeys := false, apart := false, laid := [("unicode/utf8.acceptRanges", laid_unicode_utf8_acceptRanges), ("unicode/utf8.first", laid_unicode_utf8_first)], narrowed := true }
def TxnTellsUptoSaid : Prop := txnTellsUptoRow.holds Tryz.pinned (OpenSpec.upto txnTellsSpec)

/-- 'ogivelaw17.TxnBetween', WHERE WHAT IT READS IS OF BULK AT MOST 1048576: true; the input reads as it did. -/
def txnBetweenUptoRow : OpenClaim := { program := "ytlfhmiekaegfgaagreatdoor", sum := "856c56d72352225f982d572caf080b7ea98edd2654f3fbb91b03673928f42b18", func := "ogive/ogivelaw17.TxnBetween", spec := "txnBetween", inPlace := ["internal/bytealg.IndexByteString", "internal/bytealg.IndexString", "internal/abi.NoEscape", "internal/bytealg.abigen_runtime_cmpstring", "internal/bytealg.CountString", "internal/bytealg.MakeNoZero", "slices.overlaps[ogive/graph.Entry]"], unfollowed := true, recurses := true, named := ["internal/bytealg.MaxLen", "unicode/utf8.first", "unicode/utf8.acceptRanges"], plainKeys := false, apart := false, laid := [("unicode/utf8.acceptRanges", laid_unicode_utf8_acceptRanges), ("unicode/utf8.first", laid_unicode_utf8_first)], narrowed := true }
def TxnBetweenUptoSaid : Prop := txnBetweenUptoRow.holds Tryz.pinned (OpenSpec.upto txnBetweenSpec)

/-- 'ogivelaw17.TxnWrites', WHERE WHAT IT READS IS OF BULK AT MOST 1048576: true; the input reads as it did. -/
def txnWritesUptoRow : OpenClaim := { program := "ytlfhmiekaegfgaagreatdoor", sum := "856c56d72352225f982d572caf080b7ea98edd2654f3fbb91b03673928f42b18", func := "ogive/ogivelaw17.TxnWrites", spec := "txnWrites", inPlace := ["internal/bytealg.IndexByteString", "internal/bytealg.IndexString", "internal/abi.NoEscape", "internal/bytealg.abigen_runtime_cmpstring", "internal/bytealg.CountString", "internal/bytealg.MakeNoZero", "slices.overlaps[ogive/graph.Entry]"], unfollowed := true, recurses := true, named := ["internal/bytealg.MaxLen", "unicode/utf8.first", "unicode/utf8.acceptRanges"], plainKeys := false, apart := false, laid := [("unicode/utf8.acceptRanges", laid_unicode_utf8_acceptRanges), ("unicode/utf8.first", laid_unicode_utf8_first)], narrowed := true }
def TxnWritesUptoSaid : Prop := txnWritesUptoRow.holds Tryz.pinned (OpenSpec.upto txnWritesSpec)

end Rows
end Go.Proofs.YtlfhmiekaegfgaaGreatDoor
