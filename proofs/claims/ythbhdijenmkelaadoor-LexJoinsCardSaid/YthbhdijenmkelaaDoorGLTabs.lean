import Derived.Test.YthbhdijenmkelaaDoorGLx0
import Derived.Test.YthbhdijenmkelaaDoorShelf
import Derived.Lib.LaidTab
import Derived.Below
namespace Go.Proofs.YthbhdijenmkelaaDoor.GL
open Go.RowKit
/-- What the library's variables hold. -/
def Tabs (w : World) : Prop := Lib.TabIs Tryd.prog w "internal/strconv.uint64pow10" .u64 Lib.pow10Tab ∧ (∃ tp p, w.var? Tryd.prog "strconv.ErrSyntax" = some #[.iface tp p]) ∧ (∃ tp p, w.var? Tryd.prog "strconv.ErrRange" = some #[.iface tp p])
theorem var_at {P : Program} {w W : World} {n : String} {cs : Array Value} (h : w.var? P n = some cs) (hb : Below w.heap.size w W) : W.var? P n = some cs := by
  unfold World.var? at h ⊢
  cases hg : P.globalNamed n with
  | none => rw [hg] at h; cases h
  | some g =>
    rw [hg] at h
    simp only [Option.bind_some] at h ⊢
    have hlt : g < w.heap.size := by
      rcases Nat.lt_or_ge g w.heap.size with hl | hl
      · exact hl
      · rw [Array.getElem?_eq_none hl] at h
        cases h
    rw [hb.block g hlt]
    exact h
theorem Tabs.at {w W : World} (h : Tabs w) (hb : Below w.heap.size w W) : Tabs W :=
  ⟨var_at h.1 hb, by obtain ⟨tp, p, hv⟩ := h.2.1; exact ⟨tp, p, var_at hv hb⟩, by obtain ⟨tp, p, hv⟩ := h.2.2; exact ⟨tp, p, var_at hv hb⟩⟩
end Go.Proofs.YthbhdijenmkelaaDoor.GL
