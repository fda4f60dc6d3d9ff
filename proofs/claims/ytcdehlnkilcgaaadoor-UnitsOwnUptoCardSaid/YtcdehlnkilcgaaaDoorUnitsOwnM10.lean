/- Plain: encodings and runs, there and back. -/
import Derived.Test.YtcdehlnkilcgaaaDoorUnitsOwnM9
namespace Go.Proofs.YtcdehlnkilcgaaaDoor.Pure
open Go.RowKit Go.Proofs.YtcdehlnkilcgaaaDoor.Q Go.Proofs.YtcdehlnkilcgaaaDoorW.PrintWords
def scalar (r : Int) : Prop := 0 ≤ r ∧ r ≤ 1114111 ∧ ¬ (55296 ≤ r ∧ r ≤ 57343)
end Go.Proofs.YtcdehlnkilcgaaaDoor.Pure
