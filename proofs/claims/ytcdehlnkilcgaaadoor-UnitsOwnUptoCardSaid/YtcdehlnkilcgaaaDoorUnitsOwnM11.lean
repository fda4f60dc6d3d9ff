/- Plain: what From and FromExact take is told again as the units. -/
import Derived.Test.YtcdehlnkilcgaaaDoorUnitsOwnM10
namespace Go.Proofs.YtcdehlnkilcgaaaDoor.Pure
open Go.RowKit Go.Proofs.YtcdehlnkilcgaaaDoor.Q Go.Proofs.YtcdehlnkilcgaaaDoorW.PrintWords
theorem enc_le (m : List Int) (hm : m ≠ []) : (encP (rA m)).length ≤ 4 * nA m := by
  have h1 := (encP_len (rA m)).2; have := (nA_le m hm).1; omega
end Go.Proofs.YtcdehlnkilcgaaaDoor.Pure
