/-
  What is proved: the law UnitsNames answers true: the errors' numbers ErrLone and ErrJoins are 30 and 31 (a closed sentence, no conditions).
-/
import Derived.Test.YtcdehlnkilcgaaaPUnitsNamesx1
namespace Go.Proofs.Ytcdehlnkilcgaaa.Pure
open Go.RowKit Go.Proofs.Ytcdehlnkilcgaaa.PUnitsNames Go.Proofs.YtcdehlnkilcgaaaW.PrintWords Go.Proofs.YtcdehlnkilcgaaaW.PrintLast

theorem UnitsNames : galleylaw03_UnitsNames.Pure := by
  unfold galleylaw03_UnitsNames.Pure galleylaw03_UnitsNames.f
  first | rfl | simp

end Go.Proofs.Ytcdehlnkilcgaaa.Pure
