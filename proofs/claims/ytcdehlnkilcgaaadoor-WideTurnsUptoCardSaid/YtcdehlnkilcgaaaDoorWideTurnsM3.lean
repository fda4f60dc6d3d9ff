/- Plain: the reference's Long is the length of the encoding; the steps' beginnings. -/
import Derived.Test.YtcdehlnkilcgaaaDoorWideTurnsM1
import Derived.Test.YtcdehlnkilcgaaaDoorWideTurnsM2
import Derived.Test.YtcdehlnkilcgaaaDoorWideTurnsQ0
namespace Go.Proofs.YtcdehlnkilcgaaaDoor.Pure
open Go.RowKit Go.Proofs.YtcdehlnkilcgaaaDoor.Q Go.Proofs.YtcdehlnkilcgaaaDoorW.PrintWords
theorem rd_eq (l : List Int) (p : Nat) (h : p < l.length) : rd l (p : Int) = l.getD p (-1) := by
  simp [rd, List.getD_eq_getElem?_getD, h]
theorem getD_lt (l : List Int) (p : Nat) (h : l.getD p (-1) ≠ -1) : p < l.length := by
  rcases Nat.lt_or_ge p l.length with h' | h'
  · exact h'
  · exact absurd (by simp [List.getD_eq_getElem?_getD, List.getElem?_eq_none h']) h
end Go.Proofs.YtcdehlnkilcgaaaDoor.Pure
