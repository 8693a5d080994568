import Derived.Lib.ItoaNum
import Derived.Lib.ParseIntB
namespace Go.Proofs.YthbhdijenmkelaaDoor.GL
/-! ### what the text language's bytes are, by lists alone -/
def plainI (x : Int) : Bool := decide (32 ≤ x) && decide (x ≤ 126) && decide (x ≠ 34) && decide (x ≠ 92)
def figureI (x : Int) : Bool := decide (48 ≤ x) && decide (x ≤ 57)
def letterI (x : Int) : Bool := decide (97 ≤ x) && decide (x ≤ 122)
abbrev ub (c : UInt8) : Int := (c.toNat : Int)
def whileN (p : Int → Bool) (l : List UInt8) : Nat := (l.takeWhile fun c => p (ub c)).length
def hexL : List UInt8 := [48, 49, 50, 51, 52, 53, 54, 55, 56, 57, 97, 98, 99, 100, 101, 102]
/-- A figure to the base 16: its number; -1: it is none. -/
def hexN (c : UInt8) : Int := if 48 ≤ ub c ∧ ub c ≤ 57 then ub c - 48 else if 97 ≤ ub c ∧ ub c ≤ 102 then ub c - 87 else -1
/-- What stands first in a quoted text, and how long it is. -/
def pieceL : List UInt8 → Option (UInt8 × Nat)
  | [] => none
  | a :: r => if plainI (ub a) = true then some (a, 1) else if ub a ≠ 92 then none else
    match r with
    | [] => none
    | b :: r2 => if ub b = 34 ∨ ub b = 92 then some (b, 2) else if ub b ≠ 120 then none else
      match r2 with
      | hi :: lo :: _ => if hexN hi < 0 ∨ hexN lo < 0 ∨ plainI (16 * hexN hi + hexN lo) = true ∨ 16 * hexN hi + hexN lo = 34 ∨ 16 * hexN hi + hexN lo = 92 then none else some (UInt8.ofNat (16 * hexN hi + hexN lo).toNat, 4)
      | _ => none
/-- A quoted text behind its quote: what it says, and how long it is, the quote behind it with it. -/
def textL : Nat → List UInt8 → List UInt8 → Option (List UInt8 × Nat)
  | 0, _, _ => none
  | k + 1, l, acc => match l with
    | [] => none
    | a :: r => if ub a = 34 then some (acc, 1) else match pieceL (a :: r) with
      | none => none
      | some (c, n) => (textL k ((a :: r).drop n) (acc ++ [c])).map fun x => (x.1, x.2 + n)
def signN (l : List UInt8) : Nat := if l.head? = some 45 then 1 else 0
def numSize (l : List UInt8) : Nat := signN l + whileN figureI (l.drop (signN l))
def numberL (l : List UInt8) : Option (Int × Nat) :=
  match Lib.parseIntB 64 (l.take (numSize l)) with
  | .ok v => if Lib.itoa v = l.take (numSize l) then some (v, numSize l) else none
  | _ => none
/-- The token that begins here: kind, text, number, and how long it is (0: there is none). -/
def tokenL (l : List UInt8) : Int × List UInt8 × Int × Nat :=
  match l with
  | [] => (0, [], 0, 0)
  | a :: r => if ub a = 59 then (4, [], 0, 1)
    else if ub a = 34 then (match textL (r.length + 1) r [] with | some (s, n) => (3, s, 0, n + 1) | none => (0, [], 0, 0))
    else if ub a = 45 ∨ figureI (ub a) = true then (match numberL (a :: r) with | some (v, n) => (2, [], v, n) | none => (0, [], 0, 0))
    else (1, (a :: r).take (whileN letterI (a :: r)), 0, whileN letterI (a :: r))
end Go.Proofs.YthbhdijenmkelaaDoor.GL
