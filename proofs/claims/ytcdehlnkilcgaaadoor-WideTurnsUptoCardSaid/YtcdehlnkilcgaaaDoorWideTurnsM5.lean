/- Plain: Steps, To and ToExact of the reference; To and ToExact of the program. -/
import Derived.Test.YtcdehlnkilcgaaaDoorWideTurnsM3
import Derived.Test.YtcdehlnkilcgaaaDoorWideTurnsQ0
import Derived.Test.YtcdehlnkilcgaaaDoorWideTurnsQb
namespace Go.Proofs.YtcdehlnkilcgaaaDoor.Pure
open Go.RowKit Go.Proofs.YtcdehlnkilcgaaaDoor.Q Go.Proofs.YtcdehlnkilcgaaaDoorW.PrintWords
theorem rd_mid (a b : List Int) (x : Int) : rd (a ++ x :: b) ((a.length : Nat) : Int) = x := by
  simp [rd, List.getD_eq_getElem?_getD]
def unitsOf (r : Int) : List Int := if 65535 < r ∧ r ≤ 1114111 then [55296 + (r - 65536) / 1024, 56320 + (r - 65536) % 1024] else [r]
def exact (m : List Int) : List Int := if lng m = 0 then [56320 + m.getD 0 (-1)] else unitsOf (run m)
end Go.Proofs.YtcdehlnkilcgaaaDoor.Pure
