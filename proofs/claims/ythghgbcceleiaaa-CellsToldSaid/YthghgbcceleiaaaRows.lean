/-
  No cell of these rows narrows 'for every input' (looked for: loops, veiled, ifaces, maps, wideKeys, modest, calm, conditions, laid).
  DERIVED. THE GIVEN ROWS OF THIS SEAT. 12 by the template 'for every input the law returns true; each argument reads behind the call as it read before'; 0 by the template 'total and deterministic' (their statements: YthghgbcceleiaaaTotals.lean).
  GIVEN WITH THE SEED: the statements are not yours to turn. If you find one false, say at which input.
  Laid BY PROGRAM, IN A SANDBOX (cutbox-rows.mjs): the forced cells as the released guide's own fill.sh prints them over the translation 44a404130a0b06c8… (all of the seat's roots in one cut). By AI agents, Wed Nov 11 2026. No macro, syntax, notation, axiom, sorry.
-/
import Derived.Test.YthghgbcceleiaaaChecked
import GoSem.Claim
import GoSem.ClaimJoined
import GoSem.ClaimMapViews
import Derived.JoinedTies
import Derived.KernelRfl
namespace Go.Proofs.Ythghgbcceleiaaa
/- THE CELL 'sum', in the pinned program and in every row, IS THE sha256 OF THE DUMP (.gsa) THAT YthghgbcceleiaaaProg.lean LOADS. Nothing in Lean hashes anything: it is a label: what it is worth is what the hold of that sum in a sandbox is worth. -/
noncomputable def Try.pinned : Pinned := { name := "ythghgbcceleiaaa", sum := "44a404130a0b06c8145052a58993a22937f0d311cde2d3ce0dbf18854583076a", checked := Try.checked }
namespace Rows
def none {H : Type} : Left H := { results := [], args := [] }

/-- 'ogivelaw13.SweepNeeds': WHATEVER THE INPUT: true; the input reads as it did. -/
def sweepNeedsSpec : ChangeSpec := { name := "sweepNeeds", fn := fun _ => fun
  | [d1, d2] => { results := [.lit (.bool true)], args := [d1, d2] }
  | _ => none }
def sweepNeedsRow : OpenClaim := { program := "ythghgbcceleiaaa", sum := "44a404130a0b06c8145052a58993a22937f0d311cde2d3ce0dbf18854583076a", func := "ogive/ogivelaw13.SweepNeeds", spec := "sweepNeeds", unfollowed := true, recurses := true, plainKeys := false, apart := false }
def SweepNeedsSaid : Prop := sweepNeedsRow.holds Try.pinned (OpenSpec.ofChange sweepNeedsSpec)

/-- ITS FALSE NEIGHBOUR: 'it returns false'. Refute it at one input. -/
def sweepNeedsWrong : ChangeSpec := { name := "sweepNeeds", fn := fun _ => fun
  | [d1, d2] => { results := [.lit (.bool false)], args := [d1, d2] }
  | _ => none }
def SweepNeedsWrongFalsely : Prop := sweepNeedsRow.holds Try.pinned (OpenSpec.ofChange sweepNeedsWrong)

/-- 'ogivelaw13.SweepFew': WHATEVER THE INPUT: true; the input reads as it did. -/
def sweepFewSpec : ChangeSpec := { name := "sweepFew", fn := fun _ => fun
  | [d1, d2] => { results := [.lit (.bool true)], args := [d1, d2] }
  | _ => none }
def sweepFewRow : OpenClaim := { program := "ythghgbcceleiaaa", sum := "44a404130a0b06c8145052a58993a22937f0d311cde2d3ce0dbf18854583076a", func := "ogive/ogivelaw13.SweepFew", spec := "sweepFew", unfollowed := true, recurses := true, plainKeys := false, apart := false }
def SweepFewSaid : Prop := sweepFewRow.holds Try.pinned (OpenSpec.ofChange sweepFewSpec)

/-- ITS FALSE NEIGHBOUR: 'it returns false'. Refute it at one input. -/
def sweepFewWrong : ChangeSpec := { name := "sweepFew", fn := fun _ => fun
  | [d1, d2] => { results := [.lit (.bool false)], args := [d1, d2] }
  | _ => none }
def SweepFewWrongFalsely : Prop := sweepFewRow.holds Try.pinned (OpenSpec.ofChange sweepFewWrong)

/-- 'ogivelaw13.SweepTwice': WHATEVER THE INPUT: true; the input reads as it did. -/
def sweepTwiceSpec : ChangeSpec := { name := "sweepTwice", fn := fun _ => fun
  | [d1, d2] => { results := [.lit (.bool true)], args := [d1, d2] }
  | _ => none }
def sweepTwiceRow : OpenClaim := { program := "ythghgbcceleiaaa", sum := "44a404130a0b06c8145052a58993a22937f0d311cde2d3ce0dbf18854583076a", func := "ogive/ogivelaw13.SweepTwice", spec := "sweepTwice", unfollowed := true, recurses := true, plainKeys := false, apart := false }
def SweepTwiceSaid : Prop := sweepTwiceRow.holds Try.pinned (OpenSpec.ofChange sweepTwiceSpec)

/-- ITS FALSE NEIGHBOUR: 'it returns false'. Refute it at one input. -/
def sweepTwiceWrong : ChangeSpec := { name := "sweepTwice", fn := fun _ => fun
  | [d1, d2] => { results := [.lit (.bool false)], args := [d1, d2] }
  | _ => none }
def SweepTwiceWrongFalsely : Prop := sweepTwiceRow.holds Try.pinned (OpenSpec.ofChange sweepTwiceWrong)

/-- 'ogivelaw13.SweepSafe': WHATEVER THE INPUT: true; the input reads as it did. -/
def sweepSafeSpec : ChangeSpec := { name := "sweepSafe", fn := fun _ => fun
  | [d1, d2, d3] => { results := [.lit (.bool true)], args := [d1, d2, d3] }
  | _ => none }
def sweepSafeRow : OpenClaim := { program := "ythghgbcceleiaaa", sum := "44a404130a0b06c8145052a58993a22937f0d311cde2d3ce0dbf18854583076a", func := "ogive/ogivelaw13.SweepSafe", spec := "sweepSafe", unfollowed := true, recurses := true, plainKeys := false, apart := false }
def SweepSafeSaid : Prop := sweepSafeRow.holds Try.pinned (OpenSpec.ofChange sweepSafeSpec)

/-- ITS FALSE NEIGHBOUR: 'it returns false'. Refute it at one input. -/
def sweepSafeWrong : ChangeSpec := { name := "sweepSafe", fn := fun _ => fun
  | [d1, d2, d3] => { results := [.lit (.bool false)], args := [d1, d2, d3] }
  | _ => none }
def SweepSafeWrongFalsely : Prop := sweepSafeRow.holds Try.pinned (OpenSpec.ofChange sweepSafeWrong)

/-- 'ogivelaw13.SweepTurns': WHATEVER THE INPUT: true; the input reads as it did. -/
def sweepTurnsSpec : ChangeSpec := { name := "sweepTurns", fn := fun _ => fun
  | [d1, d2, d3] => { results := [.lit (.bool true)], args := [d1, d2, d3] }
  | _ => none }
def sweepTurnsRow : OpenClaim := { program := "ythghgbcceleiaaa", sum := "44a404130a0b06c8145052a58993a22937f0d311cde2d3ce0dbf18854583076a", func := "ogive/ogivelaw13.SweepTurns", spec := "sweepTurns", unfollowed := true, recurses := true, plainKeys := false, apart := false }
def SweepTurnsSaid : Prop := sweepTurnsRow.holds Try.pinned (OpenSpec.ofChange sweepTurnsSpec)

/-- ITS FALSE NEIGHBOUR: 'it returns false'. Refute it at one input. -/
def sweepTurnsWrong : ChangeSpec := { name := "sweepTurns", fn := fun _ => fun
  | [d1, d2, d3] => { results := [.lit (.bool false)], args := [d1, d2, d3] }
  | _ => none }
def SweepTurnsWrongFalsely : Prop := sweepTurnsRow.holds Try.pinned (OpenSpec.ofChange sweepTurnsWrong)

/-- 'ogivelaw13.SweepAll': WHATEVER THE INPUT: true; the input reads as it did. -/
def sweepAllSpec : ChangeSpec := { name := "sweepAll", fn := fun _ => fun
  | [d1, d2, d3] => { results := [.lit (.bool true)], args := [d1, d2, d3] }
  | _ => none }
def sweepAllRow : OpenClaim := { program := "ythghgbcceleiaaa", sum := "44a404130a0b06c8145052a58993a22937f0d311cde2d3ce0dbf18854583076a", func := "ogive/ogivelaw13.SweepAll", spec := "sweepAll", unfollowed := true, recurses := true, plainKeys := false, apart := false }
def SweepAllSaid : Prop := sweepAllRow.holds Try.pinned (OpenSpec.ofChange sweepAllSpec)

/-- ITS FALSE NEIGHBOUR: 'it returns false'. Refute it at one input. -/
def sweepAllWrong : ChangeSpec := { name := "sweepAll", fn := fun _ => fun
  | [d1, d2, d3] => { results := [.lit (.bool false)], args := [d1, d2, d3] }
  | _ => none }
def SweepAllWrongFalsely : Prop := sweepAllRow.holds Try.pinned (OpenSpec.ofChange sweepAllWrong)

/-- 'ogivelaw11.CellsPlays': WHATEVER THE INPUT: true; the input reads as it did. -/
def cellsPlaysSpec : ChangeSpec := { name := "cellsPlays", fn := fun _ => fun
  | [d] => { results := [.lit (.bool true)], args := [d] }
  | _ => none }
def cellsPlaysRow : OpenClaim := { program := "ythghgbcceleiaaa", sum := "44a404130a0b06c8145052a58993a22937f0d311cde2d3ce0dbf18854583076a", func := "ogive/ogivelaw11.CellsPlays", spec := "cellsPlays", unfollowed := true, recurses := true, plainKeys := false, apart := false }
def CellsPlaysSaid : Prop := cellsPlaysRow.holds Try.pinned (OpenSpec.ofChange cellsPlaysSpec)

/-- ITS FALSE NEIGHBOUR: 'it returns false'. Refute it at one input. -/
def cellsPlaysWrong : ChangeSpec := { name := "cellsPlays", fn := fun _ => fun
  | [d] => { results := [.lit (.bool false)], args := [d] }
  | _ => none }
def CellsPlaysWrongFalsely : Prop := cellsPlaysRow.holds Try.pinned (OpenSpec.ofChange cellsPlaysWrong)

/-- 'ogivelaw11.CellsApart': WHATEVER THE INPUT: true; the input reads as it did. -/
def cellsApartSpec : ChangeSpec := { name := "cellsApart", fn := fun _ => fun
  | [d1, d2, d3] => { results := [.lit (.bool true)], args := [d1, d2, d3] }
  | _ => none }
def cellsApartRow : OpenClaim := { program := "ythghgbcceleiaaa", sum := "44a404130a0b06c8145052a58993a22937f0d311cde2d3ce0dbf18854583076a", func := "ogive/ogivelaw11.CellsApart", spec := "cellsApart", unfollowed := true, recurses := true, plainKeys := false, apart := false }
def CellsApartSaid : Prop := cellsApartRow.holds Try.pinned (OpenSpec.ofChange cellsApartSpec)

/-- ITS FALSE NEIGHBOUR: 'it returns false'. Refute it at one input. -/
def cellsApartWrong : ChangeSpec := { name := "cellsApart", fn := fun _ => fun
  | [d1, d2, d3] => { results := [.lit (.bool false)], args := [d1, d2, d3] }
  | _ => none }
def CellsApartWrongFalsely : Prop := cellsApartRow.holds Try.pinned (OpenSpec.ofChange cellsApartWrong)

/-- 'ogivelaw11.CellsTold': WHATEVER THE INPUT: true; the input reads as it did. -/
def cellsToldSpec : ChangeSpec := { name := "cellsTold", fn := fun _ => fun
  | [d1, d2, d3] => { results := [.lit (.bool true)], args := [d1, d2, d3] }
  | _ => none }
def cellsToldRow : OpenClaim := { program := "ythghgbcceleiaaa", sum := "44a404130a0b06c8145052a58993a22937f0d311cde2d3ce0dbf18854583076a", func := "ogive/ogivelaw11.CellsTold", spec := "cellsTold", unfollowed := true, recurses := true, plainKeys := false, apart := false }
def CellsToldSaid : Prop := cellsToldRow.holds Try.pinned (OpenSpec.ofChange cellsToldSpec)

/-- ITS FALSE NEIGHBOUR: 'it returns false'. Refute it at one input. -/
def cellsToldWrong : ChangeSpec := { name := "cellsTold", fn := fun _ => fun
  | [d1, d2, d3] => { results := [.lit (.bool false)], args := [d1, d2, d3] }
  | _ => none }
def CellsToldWrongFalsely : Prop := cellsToldRow.holds Try.pinned (OpenSpec.ofChange cellsToldWrong)

/-- 'ogivelaw11.CellsGone': WHATEVER THE INPUT: true; the input reads as it did. -/
def cellsGoneSpec : ChangeSpec := { name := "cellsGone", fn := fun _ => fun
  | [d1, d2] => { results := [.lit (.bool true)], args := [d1, d2] }
  | _ => none }
def cellsGoneRow : OpenClaim := { program := "ythghgbcceleiaaa", sum := "44a404130a0b06c8145052a58993a22937f0d311cde2d3ce0dbf18854583076a", func := "ogive/ogivelaw11.CellsGone", spec := "cellsGone", unfollowed := true, recurses := true, plainKeys := false, apart := false }
def CellsGoneSaid : Prop := cellsGoneRow.holds Try.pinned (OpenSpec.ofChange cellsGoneSpec)

/-- ITS FALSE NEIGHBOUR: 'it returns false'. Refute it at one input. -/
def cellsGoneWrong : ChangeSpec := { name := "cellsGone", fn := fun _ => fun
  | [d1, d2] => { results := [.lit (.bool false)], args := [d1, d2] }
  | _ => none }
def CellsGoneWrongFalsely : Prop := cellsGoneRow.holds Try.pinned (OpenSpec.ofChange cellsGoneWrong)

/-- 'ogivelaw11.CellsNobody': WHATEVER THE INPUT: true; the input reads as it did. -/
def cellsNobodySpec : ChangeSpec := { name := "cellsNobody", fn := fun _ => fun
  | [d1, d2, d3] => { results := [.lit (.bool true)], args := [d1, d2, d3] }
  | _ => none }
def cellsNobodyRow : OpenClaim := { program := "ythghgbcceleiaaa", sum := "44a404130a0b06c8145052a58993a22937f0d311cde2d3ce0dbf18854583076a", func := "ogive/ogivelaw11.CellsNobody", spec := "cellsNobody", unfollowed := true, recurses := true, plainKeys := false, apart := false }
def CellsNobodySaid : Prop := cellsNobodyRow.holds Try.pinned (OpenSpec.ofChange cellsNobodySpec)

/-- ITS FALSE NEIGHBOUR: 'it returns false'. Refute it at one input. -/
def cellsNobodyWrong : ChangeSpec := { name := "cellsNobody", fn := fun _ => fun
  | [d1, d2, d3] => { results := [.lit (.bool false)], args := [d1, d2, d3] }
  | _ => none }
def CellsNobodyWrongFalsely : Prop := cellsNobodyRow.holds Try.pinned (OpenSpec.ofChange cellsNobodyWrong)

/-- 'ogivelaw11.CellsOrder': WHATEVER THE INPUT: true; the input reads as it did. -/
def cellsOrderSpec : ChangeSpec := { name := "cellsOrder", fn := fun _ => fun
  | [d1, d2, d3] => { results := [.lit (.bool true)], args := [d1, d2, d3] }
  | _ => none }
def cellsOrderRow : OpenClaim := { program := "ythghgbcceleiaaa", sum := "44a404130a0b06c8145052a58993a22937f0d311cde2d3ce0dbf18854583076a", func := "ogive/ogivelaw11.CellsOrder", spec := "cellsOrder", unfollowed := true, recurses := true, plainKeys := false, apart := false }
def CellsOrderSaid : Prop := cellsOrderRow.holds Try.pinned (OpenSpec.ofChange cellsOrderSpec)

/-- ITS FALSE NEIGHBOUR: 'it returns false'. Refute it at one input. -/
def cellsOrderWrong : ChangeSpec := { name := "cellsOrder", fn := fun _ => fun
  | [d1, d2, d3] => { results := [.lit (.bool false)], args := [d1, d2, d3] }
  | _ => none }
def CellsOrderWrongFalsely : Prop := cellsOrderRow.holds Try.pinned (OpenSpec.ofChange cellsOrderWrong)

/- THE SECOND FORM. 'bulk': how many values and letters a reading holds, each counted each time it is reached (what is shared counts as often as it is met; a slice's spare places count too). A statement '..UptoSaid' is the law's where the arguments, and the package variables that the reading takes, are together of bulk at most 1048576: NARROWER than '..Said'. Prove '..Said' where nothing that the law and all that it calls make is longer than what came in: it says more and counts as full. Else prove '..UptoSaid'. A law counts once. -/
mutual
def uptoBulk {H : Type} : DataW H → Nat
  | .lit (.string bytes) => bytes.length + 1
  | .lit _ => 1
  | .nil => 1
  | .ptr d => uptoBulk d + 1
  | .slice elems spare => uptoBulkAll elems + uptoBulkAll spare + 1
  | .agg parts => uptoBulkAll parts + 1
  | .iface _ d => uptoBulk d + 1
  | .map entries => uptoBulkEntries entries + 1
  | .held _ => 1
def uptoBulkAll {H : Type} : List (DataW H) → Nat
  | [] => 0
  | d :: r => uptoBulk d + uptoBulkAll r
def uptoBulkEntries {H : Type} : List (Lit × DataW H) → Nat
  | [] => 0
  | x :: r => uptoBulkEntry x + uptoBulkEntries r
def uptoBulkEntry {H : Type} : Lit × DataW H → Nat
  | (.string bytes, d) => bytes.length + uptoBulk d + 1
  | (_, d) => uptoBulk d + 1
 end
def uptoSmall : (H : Type) → List (DataW H) → Bool := fun _ ds => decide (uptoBulkAll ds ≤ 1048576)
def OpenSpec.upto (s : _root_.Go.ChangeSpec) : _root_.Go.OpenSpec := { _root_.Go.OpenSpec.ofChange s with cond := some uptoSmall }

/-- 'ogivelaw13.SweepNeeds', WHERE WHAT IT READS IS OF BULK AT MOST 1048576: true; the input reads as it did. -/
def sweepNeedsUptoRow : OpenClaim := { program := "ythghgbcceleiaaa", sum := "44a404130a0b06c8145052a58993a22937f0d311cde2d3ce0dbf18854583076a", func := "ogive/ogivelaw13.SweepNeeds", spec := "sweepNeeds", unfollowed := true, recurses := true, plainKeys := false, apart := false, narrowed := true }
def SweepNeedsUptoSaid : Prop := sweepNeedsUptoRow.holds Try.pinned (OpenSpec.upto sweepNeedsSpec)

/-- 'ogivelaw13.SweepFew', WHERE WHAT IT READS IS OF BULK AT MOST 1048576: true; the input reads as it did. -/
def sweepFewUptoRow : OpenClaim := { program := "ythghgbcceleiaaa", sum := "44a404130a0b06c8145052a58993a22937f0d311cde2d3ce0dbf18854583076a", func := "ogive/ogivelaw13.SweepFew", spec := "sweepFew", unfollowed := true, recurses := true, plainKeys := false, apart := false, narrowed := true }
def SweepFewUptoSaid : Prop := sweepFewUptoRow.holds Try.pinned (OpenSpec.upto sweepFewSpec)

/-- 'ogivelaw13.SweepTwice', WHERE WHAT IT READS IS OF BULK AT MOST 1048576: true; the input reads as it did. -/
def sweepTwiceUptoRow : OpenClaim := { program := "ythghgbcceleiaaa", sum := "44a404130a0b06c8145052a58993a22937f0d311cde2d3ce0dbf18854583076a", func := "ogive/ogivelaw13.SweepTwice", spec := "sweepTwice", unfollowed := true, recurses := true, plainKeys := false, apart := false, narrowed := true }
def SweepTwiceUptoSaid : Prop := sweepTwiceUptoRow.holds Try.pinned (OpenSpec.upto sweepTwiceSpec)

/-- 'ogivelaw13.SweepSafe', WHERE WHAT IT READS IS OF BULK AT MOST 1048576: true; the input reads as it did. -/
def sweepSafeUptoRow : OpenClaim := { program := "ythghgbcceleiaaa", sum := "44a404130a0b06c8145052a58993a22937f0d311cde2d3ce0dbf18854583076a", func := "ogive/ogivelaw13.SweepSafe", spec := "sweepSafe", unfollowed := true, recurses := true, plainKeys := false, apart := false, narrowed := true }
def SweepSafeUptoSaid : Prop := sweepSafeUptoRow.holds Try.pinned (OpenSpec.upto sweepSafeSpec)

/-- 'ogivelaw13.SweepTurns', WHERE WHAT IT READS IS OF BULK AT MOST 1048576: true; the input reads as it did. -/
def sweepTurnsUptoRow : OpenClaim := { program := "ythghgbcceleiaaa", sum := "44a404130a0b06c8145052a58993a22937f0d311cde2d3ce0dbf18854583076a", func := "ogive/ogivelaw13.SweepTurns", spec := "sweepTurns", unfollowed := true, recurses := true, plainKeys := false, apart := false, narrowed := true }
def SweepTurnsUptoSaid : Prop := sweepTurnsUptoRow.holds Try.pinned (OpenSpec.upto sweepTurnsSpec)

/-- 'ogivelaw13.SweepAll', WHERE WHAT IT READS IS OF BULK AT MOST 1048576: true; the input reads as it did. -/
def sweepAllUptoRow : OpenClaim := { program := "ythghgbcceleiaaa", sum := "44a404130a0b06c8145052a58993a22937f0d311cde2d3ce0dbf18854583076a", func := "ogive/ogivelaw13.SweepAll", spec := "sweepAll", unfollowed := true, recurses := true, plainKeys := false, apart := false, narrowed := true }
def SweepAllUptoSaid : Prop := sweepAllUptoRow.holds Try.pinned (OpenSpec.upto sweepAllSpec)

/-- 'ogivelaw11.CellsPlays', WHERE WHAT IT READS IS OF BULK AT MOST 1048576: true; the input reads as it did. -/
def cellsPlaysUptoRow : OpenClaim := { program := "ythghgbcceleiaaa", sum := "44a404130a0b06c8145052a58993a22937f0d311cde2d3ce0dbf18854583076a", func := "ogive/ogivelaw11.CellsPlays", spec := "cellsPlays", unfollowed := true, recurses := true, plainKeys := false, apart := false, narrowed := true }
def CellsPlaysUptoSaid : Prop := cellsPlaysUptoRow.holds Try.pinned (OpenSpec.upto cellsPlaysSpec)

/-- 'ogivelaw11.CellsApart', WHERE WHAT IT READS IS OF BULK AT MOST 1048576: true; the input reads as it did. -/
def cellsApartUptoRow : OpenClaim := { program := "ythghgbcceleiaaa", sum := "44a404130a0b06c8145052a58993a22937f0d311cde2d3ce0dbf18854583076a", func := "ogive/ogivelaw11.CellsApart", spec := "cellsApart", unfollowed := true, recurses := true, plainKeys := false, apart := false, narrowed := true }
def CellsApartUptoSaid : Prop := cellsApartUptoRow.holds Try.pinned (OpenSpec.upto cellsApartSpec)

/-- 'ogivelaw11.CellsTold', WHERE WHAT IT READS IS OF BULK AT MOST 1048576: true; the input reads as it did. -/
def cellsToldUptoRow : OpenClaim := { program := "ythghgbcceleiaaa", sum := "44a404130a0b06c8145052a58993a22937f0d311cde2d3ce0dbf18854583076a", func := "ogive/ogivelaw11.CellsTold", spec := "cellsTold", unfollowed := true, recurses := true, plainKeys := false, apart := false, narrowed := true }
def CellsToldUptoSaid : Prop := cellsToldUptoRow.holds Try.pinned (OpenSpec.upto cellsToldSpec)

/-- 'ogivelaw11.CellsGone', WHERE WHAT IT READS IS OF BULK AT MOST 1048576: true; the input reads as it did. -/
def cellsGoneUptoRow : OpenClaim := { program := "ythghgbcceleiaaa", sum := "44a404130a0b06c8145052a58993a22937f0d311cde2d3ce0dbf18854583076a", func := "ogive/ogivelaw11.CellsGone", spec := "cellsGone", unfollowed := true, recurses := true, plainKeys := false, apart := false, narrowed := true }
def CellsGoneUptoSaid : Prop := cellsGoneUptoRow.holds Try.pinned (OpenSpec.upto cellsGoneSpec)

/-- 'ogivelaw11.CellsNobody', WHERE WHAT IT READS IS OF BULK AT MOST 1048576: true; the input reads as it did. -/
def cellsNobodyUptoRow : OpenClaim := { program := "ythghgbcceleiaaa", sum := "44a404130a0b06c8145052a58993a22937f0d311cde2d3ce0dbf18854583076a", func := "ogive/ogivelaw11.CellsNobody", spec := "cellsNobody", unfollowed := true, recurses := true, plainKeys := false, apart := false, narrowed := true }
def CellsNobodyUptoSaid : Prop := cellsNobodyUptoRow.holds Try.pinned (OpenSpec.upto cellsNobodySpec)

/-- 'ogivelaw11.CellsOrder', WHERE WHAT IT READS IS OF BULK AT MOST 1048576: true; the input reads as it did. -/
def cellsOrderUptoRow : OpenClaim := { program := "ythghgbcceleiaaa", sum := "44a404130a0b06c8145052a58993a22937f0d311cde2d3ce0dbf18854583076a", func := "ogive/ogivelaw11.CellsOrder", spec := "cellsOrder", unfollowed := true, recurses := true, plainKeys := false, apart := false, narrowed := true }
def CellsOrderUptoSaid : Prop := cellsOrderUptoRow.holds Try.pinned (OpenSpec.upto cellsOrderSpec)

end Rows
end Go.Proofs.Ythghgbcceleiaaa
