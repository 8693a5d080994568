-- Printed by gprint.py (wip/tools): the kinds that come in as data.
import Derived.Test.YthbhdijenmkelaaDoorGLx0
import Derived.Test.YthbhdijenmkelaaDoorOpen
namespace Go.Proofs.YthbhdijenmkelaaDoor.GL
open Go.RowKit Go.ChangeShapes Go.WideShapes Go.Proofs.YthbhdijenmkelaaDoorW.PrintWords Go.Proofs.YthbhdijenmkelaaDoorOpen
set_option linter.unusedVariables false

def ok9 (s : ByteArray) : Prop := s.size ≤ maxLen
theorem open9 : Opens Tryd.prog 9 Kd.string ok9 := Opens.string Tryd.underlying9
def ok2 (n : Int) : Prop := (Lit.int .i64 n).wf = true
theorem open2 : Opens Tryd.prog 2 (Kd.int .i64) ok2 := Opens.int Tryd.underlying2
def ok5 (n : Int) : Prop := (Lit.int .u8 n).wf = true
theorem open5 : Opens Tryd.prog 5 (Kd.int .u8) ok5 := Opens.int Tryd.underlying5
end Go.Proofs.YthbhdijenmkelaaDoor.GL
