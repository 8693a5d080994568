import Derived.Test.YthghgbcceleiaaaGSPlainE
import Derived.Test.YthghgbcceleiaaaGSOpen
import Derived.OpenShut
namespace Go.Proofs.Ythghgbcceleiaaa.Pure
open Go.RowKit Go.Proofs.Ythghgbcceleiaaa.GS Go.Proofs.YthghgbcceleiaaaW.PrintWords Go.Proofs.YthghgbcceleiaaaW.PrintMore

theorem int_top {n : Int} (h : (Lit.int .i64 n).wf = true) : n ≤ top64 := by
  have := Go.bounds_i64 h
  unfold top64
  omega
theorem SweepTwice : ∀ (l0 : List (S37)) (l1 : List Int), ok22 l0 → ok23 l1 → ∃ k, ogivelaw13_SweepTwice.f k l0 l1 = some true :=
  fun l0 l1 h _ => (SweepTwice_ev l0 l1 (fun v hv => int_top (h.2 v hv).1)).rounds

end Go.Proofs.Ythghgbcceleiaaa.Pure
