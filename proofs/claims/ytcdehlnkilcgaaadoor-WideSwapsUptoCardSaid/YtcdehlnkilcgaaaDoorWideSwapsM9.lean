/- Plain: joins and FromExact of the program and of the reference. -/
import Derived.Test.YtcdehlnkilcgaaaDoorWideSwapsM8
namespace Go.Proofs.YtcdehlnkilcgaaaDoor.Pure
open Go.RowKit Go.Proofs.YtcdehlnkilcgaaaDoor.Q Go.Proofs.YtcdehlnkilcgaaaDoorW.PrintWords
/-- The unit stands for a byte. -/
def one (u : Int) : Prop := 56448 ≤ u ∧ u ≤ 56575
instance (u : Int) : Decidable (one u) := by unfold one; infer_instance
end Go.Proofs.YtcdehlnkilcgaaaDoor.Pure
