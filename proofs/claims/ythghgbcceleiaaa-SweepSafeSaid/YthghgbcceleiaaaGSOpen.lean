-- Printed by gprint.py (wip/tools): the kinds that come in as data.
import Derived.Test.YthghgbcceleiaaaGSx0
import Derived.Test.YthghgbcceleiaaaOpen
namespace Go.Proofs.Ythghgbcceleiaaa.GS
open Go.RowKit Go.ChangeShapes Go.WideShapes Go.Proofs.YthghgbcceleiaaaW.PrintWords Go.Proofs.YthghgbcceleiaaaOpen
set_option linter.unusedVariables false

def ok2 (n : Int) : Prop := (Lit.int .i64 n).wf = true
theorem open2 : Opens Try.prog 2 (Kd.int .i64) ok2 := Opens.int Try.underlying2
def ok9 (s : ByteArray) : Prop := s.size ≤ maxLen
theorem open9 : Opens Try.prog 9 Kd.string ok9 := Opens.string Try.underlying9
def ok4 (_ : Bool) : Prop := True
theorem open4 : Opens Try.prog 4 Kd.bool ok4 := Opens.bool Try.underlying4
instance : Inhabited S37 := ⟨z37⟩
def ok37 (x : S37) : Prop := ok2 x.f0 ∧ ok2 x.f1 ∧ ok9 x.f2 ∧ ok4 x.f3
set_option maxRecDepth 100000 in
theorem open37 : Opens Try.prog 37 k37 ok37 := by
  intro H enc W base spare held fuel cs x h
  obtain ⟨xs, n, rfl, _, hl, hxl, hf⟩ := DataW.trod_struct Try.underlying37 h
  rw [show Try.prog.cellsOf 37 = 4 from by kernel_rfl] at hl
  match cs, hl with
  | [c0, c1, c2, c3], _ =>
  obtain ⟨y0, h0⟩ : ∃ y, xs[0]? = some y := ⟨_, List.getElem?_eq_getElem (by rw [hxl]; decide)⟩
  have g0 : DataW.trod enc Try.prog W base spare held n 2 (([c0, c1, c2, c3].drop 0).take (Try.prog.cellsOf 2)) = some y0 := (hf 0 _ rfl).trans h0
  rw [show Try.prog.cellsOf 2 = 1 from by kernel_rfl] at g0
  obtain ⟨x0, k0, o0⟩ := open2 H enc W base spare held n _ _ g0
  obtain ⟨y1, h1⟩ : ∃ y, xs[1]? = some y := ⟨_, List.getElem?_eq_getElem (by rw [hxl]; decide)⟩
  have g1 : DataW.trod enc Try.prog W base spare held n 2 (([c0, c1, c2, c3].drop 1).take (Try.prog.cellsOf 2)) = some y1 := (hf 1 _ rfl).trans h1
  rw [show Try.prog.cellsOf 2 = 1 from by kernel_rfl] at g1
  obtain ⟨x1, k1, o1⟩ := open2 H enc W base spare held n _ _ g1
  obtain ⟨y2, h2⟩ : ∃ y, xs[2]? = some y := ⟨_, List.getElem?_eq_getElem (by rw [hxl]; decide)⟩
  have g2 : DataW.trod enc Try.prog W base spare held n 9 (([c0, c1, c2, c3].drop 2).take (Try.prog.cellsOf 9)) = some y2 := (hf 2 _ rfl).trans h2
  rw [show Try.prog.cellsOf 9 = 1 from by kernel_rfl] at g2
  obtain ⟨x2, k2, o2⟩ := open9 H enc W base spare held n _ _ g2
  obtain ⟨y3, h3⟩ : ∃ y, xs[3]? = some y := ⟨_, List.getElem?_eq_getElem (by rw [hxl]; decide)⟩
  have g3 : DataW.trod enc Try.prog W base spare held n 4 (([c0, c1, c2, c3].drop 3).take (Try.prog.cellsOf 4)) = some y3 := (hf 3 _ rfl).trans h3
  rw [show Try.prog.cellsOf 4 = 1 from by kernel_rfl] at g3
  obtain ⟨x3, k3, o3⟩ := open4 H enc W base spare held n _ _ g3
  exact ⟨⟨x0, x1, x2, x3⟩, ⟨[c0], [c1, c2, c3], rfl, k0, ⟨[c1], [c2, c3], rfl, k1, ⟨[c2], [c3], rfl, k2, k3⟩⟩⟩, ⟨o0, o1, o2, o3⟩⟩
def ok22 (xs : List S37) : Prop := xs.length ≤ maxLen ∧ ∀ x ∈ xs, ok37 x
theorem open22 : Opens Try.prog 22 (Kd.slice 37 k37) ok22 := Opens.slice Try.underlying22 (by kernel_rfl) open37
def ok23 (xs : List Int) : Prop := xs.length ≤ maxLen ∧ ∀ x ∈ xs, ok2 x
theorem open23 : Opens Try.prog 23 (Kd.slice 2 (Kd.int .i64)) ok23 := Opens.slice Try.underlying23 (by kernel_rfl) open2
def ok5 (n : Int) : Prop := (Lit.int .u8 n).wf = true
theorem open5 : Opens Try.prog 5 (Kd.int .u8) ok5 := Opens.int Try.underlying5
end Go.Proofs.Ythghgbcceleiaaa.GS
