/- Plain: the reference's Edges and Steps are the beginnings of the steps, and the steps. -/
import Derived.Test.YtcdehlnkilcgaaaDoorWideBackM3
import Derived.Test.YtcdehlnkilcgaaaDoorWideBackQ0
namespace Go.Proofs.YtcdehlnkilcgaaaDoor.Pure
open Go.RowKit Go.Proofs.YtcdehlnkilcgaaaDoor.Q Go.Proofs.YtcdehlnkilcgaaaDoorW.PrintWords
theorem wid_pos (l : List Int) : 1 ≤ wid l := by
  unfold wid; split <;> omega
theorem wid_le (l : List Int) (h : l ≠ []) : wid l ≤ l.length := by
  have := lng_le l; have : 0 < l.length := List.length_pos_iff.2 h; unfold wid; split <;> omega
/-- The rests of the text that its steps begin. -/
def sufs : Nat → List Int → List (List Int)
  | 0, _ => []
  | f + 1, l => if l = [] then [] else l :: sufs f (l.drop (wid l))
end Go.Proofs.YtcdehlnkilcgaaaDoor.Pure
