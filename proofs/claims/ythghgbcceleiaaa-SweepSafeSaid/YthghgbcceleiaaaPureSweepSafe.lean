import Derived.Test.YthghgbcceleiaaaGSPlainF
import Derived.Test.YthghgbcceleiaaaGSOpen
import Derived.OpenShut
namespace Go.Proofs.Ythghgbcceleiaaa.Pure
open Go.RowKit Go.Proofs.Ythghgbcceleiaaa.GS Go.Proofs.YthghgbcceleiaaaW.PrintWords Go.Proofs.YthghgbcceleiaaaW.PrintMore

theorem int_top {n : Int} (h : (Lit.int .i64 n).wf = true) : n ≤ top64 := by
  have := Go.bounds_i64 h
  unfold top64
  omega
theorem SweepSafe : ∀ (l0 : List (S37)) (l1 : List Int) (a2 : Int), ok22 l0 → ok23 l1 → ok5 a2 → ∃ k, ogivelaw13_SweepSafe.f k l0 l1 a2 = some true :=
  fun l0 l1 a2 h _ h2 => (SweepSafe_ev l0 l1 a2 (Go.bounds_u8 h2).1 (by have := (Go.bounds_u8 h2).2; omega) (fun v hv => int_top (h.2 v hv).1)).rounds

end Go.Proofs.Ythghgbcceleiaaa.Pure
