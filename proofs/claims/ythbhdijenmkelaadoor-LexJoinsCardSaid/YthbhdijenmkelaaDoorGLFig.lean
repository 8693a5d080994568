import Derived.Test.YthbhdijenmkelaaDoorGLTabs
import Derived.Lib.AppendIntMem
namespace Go.Proofs.YthbhdijenmkelaaDoor.GL
open Go.RowKit Go.Sort Go.Proofs.YthbhdijenmkelaaDoorW.PrintWords Go.Proofs.YthbhdijenmkelaaDoorW.PrintLast Go.Proofs.YthbhdijenmkelaaDoorW.PrintMore
set_option linter.unusedVariables false

def lex_Figures.f (a0 : Int) : Option ByteArray := if -9223372036854775808 ≤ a0 ∧ a0 ≤ 9223372036854775807 then some ⟨(Lib.itoa a0).toArray⟩ else none
theorem lex_Figures.calls (a0 : Int) (r : ByteArray) (w : World) (hT : Tabs w) (h : lex_Figures.f a0 = some r) :
    Calls Tryd.prog 14 #[.int .i64 a0] w fun e w' => e = .returned (.string r) ∧ Below w.heap.size w w' := by
  unfold lex_Figures.f at h
  split at h
  · rename_i hb
    cases h
    have hT1 := hT.1
    go_enter Tryd.func14, Tryd.ntmps14
    go_wp2_with (first | (go_at_call 29; refine (Tryd.strconv_FormatInt_10 a0 hb.1 hb.2 _ hT1).mono ?_; rintro e w' ⟨rfl, k, os, rfl⟩))
    go_ret
    exact ⟨rfl, Lib.below_grow _ w (Nat.le_refl _) k os⟩
  · cases h
end Go.Proofs.YthbhdijenmkelaaDoor.GL
