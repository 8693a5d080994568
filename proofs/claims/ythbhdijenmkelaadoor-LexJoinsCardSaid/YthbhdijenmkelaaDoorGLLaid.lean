/- What the row's listed variables give the walks: the table of powers of ten, and that the two errors of strconv are values behind a pointer. Conditions: the row's own. -/
import Derived.Test.YthbhdijenmkelaaDoorTie
import Derived.Test.YthbhdijenmkelaaDoorGLTabs
import Derived.LaidMore
import Derived.MakeChecks
import Derived.Stop.LaidErr
import Derived.LaidHandle
namespace Go.Proofs.YthbhdijenmkelaaDoor.GL
open Go.ChangeShapes Go.WideShapes Go.RowKit
def laidAll : List (String × DataW Unit) := [("math/bits.deBruijn32tab", Rows.laid_math_bits_deBruijn32tab), ("math/bits.deBruijn64tab", Rows.laid_math_bits_deBruijn64tab), ("internal/strconv.uint64pow10", Rows.laid_internal_strconv_uint64pow10), ("strconv.ErrRange", Rows.laid_strconv_ErrRange), ("strconv.ErrSyntax", Rows.laid_strconv_ErrSyntax)]
theorem gPow : Tryd.prog.globalNamed "internal/strconv.uint64pow10" = some 1 := by kernel_rfl
theorem gRange : Tryd.prog.globalNamed "strconv.ErrRange" = some 3 := by kernel_rfl
theorem gSyntax : Tryd.prog.globalNamed "strconv.ErrSyntax" = some 2 := by kernel_rfl
theorem tPow : (Tryd.prog.globals[1]?).map (·.type) = some 133 := by kernel_rfl
theorem tRange : (Tryd.prog.globals[3]?).map (·.type) = some 63 := by kernel_rfl
theorem tSyntax : (Tryd.prog.globals[2]?).map (·.type) = some 63 := by kernel_rfl
theorem starErr : "*" ++ "errors.errorString" = "*errors.errorString" := by decide
theorem row153 (u : TypeId) (h : Tryd.prog.typeName? 3 u = some "*errors.errorString") : u = 153 :=
  typeName_ptr_named (nm := "errors.errorString") (by rw [starErr]; kernel_rfl) (by kernel_rfl) (by decide) u (by rw [starErr]; exact h)
theorem door_met (os : Os) (args : Array Value) : laidMetH Tryd.prog laidAll ((World.doorLaid Tryd.prog 62 os).forCall (fun _ _ => 0) ⟨#[], args, []⟩).memory :=
  laidMetH_of_parts3 (fuel := 8) (laidMet_of_run' 8 (by kernel_rfl) (by kernel_rfl)) (by kernel_rfl) (by kernel_rfl)
theorem tabs_of_laid {W : World} (h : laidMetH Tryd.prog laidAll W) : Tabs W := by
  rw [MakeChecks.laidMetH_plain _ _ _ (by kernel_rfl)] at h
  have h2 := laidMet.tail (laidMet.tail h)
  have h3 := laidMet.tail h2
  have h4 := laidMet.tail h3
  refine ⟨Lib.tabIs_of_head gPow tPow Tryd.underlying133 Tryd.underlying123 (by kernel_rfl) (by kernel_rfl) (show laidMet Tryd.prog (("internal/strconv.uint64pow10", Lib.tabData .u64 Lib.pow10Tab) :: _) W from h2), ?_, ?_⟩
  · obtain ⟨a, s, hv, _⟩ := laid_sentinel h4 gSyntax tSyntax Tryd.underlying63 row153 Tryd.underlying153 Tryd.underlying155 rfl rfl Tryd.underlying9 (by kernel_rfl) (by kernel_rfl)
    exact ⟨_, _, hv⟩
  · obtain ⟨a, s, hv, _⟩ := laid_sentinel h3 gRange tRange Tryd.underlying63 row153 Tryd.underlying153 Tryd.underlying155 rfl rfl Tryd.underlying9 (by kernel_rfl) (by kernel_rfl)
    exact ⟨_, _, hv⟩
end Go.Proofs.YthbhdijenmkelaaDoor.GL
