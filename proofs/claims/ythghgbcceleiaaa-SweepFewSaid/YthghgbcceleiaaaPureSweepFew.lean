import Derived.Test.YthghgbcceleiaaaGSPlainD
import Derived.Test.YthghgbcceleiaaaGSOpen
namespace Go.Proofs.Ythghgbcceleiaaa.Pure
open Go.RowKit Go.Proofs.Ythghgbcceleiaaa.GS Go.Proofs.YthghgbcceleiaaaW.PrintWords Go.Proofs.YthghgbcceleiaaaW.PrintMore

theorem SweepFew : ∀ (l0 : List (S37)) (l1 : List Int), ok22 l0 → ok23 l1 → ∃ k, ogivelaw13_SweepFew.f k l0 l1 = some true :=
  fun l0 l1 _ _ => (SweepFew_ev l0 l1).rounds

end Go.Proofs.Ythghgbcceleiaaa.Pure
