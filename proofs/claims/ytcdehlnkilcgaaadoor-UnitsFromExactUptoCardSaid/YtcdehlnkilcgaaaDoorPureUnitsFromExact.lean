/- The law UnitsFromExact, over numbers alone. -/
import Derived.Test.YtcdehlnkilcgaaaDoorQUnitsFromExact
import Derived.Test.YtcdehlnkilcgaaaDoorM9
namespace Go.Proofs.YtcdehlnkilcgaaaDoor.Pure
open Go.RowKit Go.Proofs.YtcdehlnkilcgaaaDoor.Q Go.Proofs.YtcdehlnkilcgaaaDoorW.PrintWords
theorem UnitsFromExact (l0 : List Int) (h0 : l0.length ≤ 1048576) (hu : ∀ x ∈ l0, 0 ≤ x ∧ x ≤ 65535) : ∃ k, galleylaw03_UnitsFromExact.f k l0 = some true := by
  refine ⟨3 * l0.length + 100, ?_⟩
  have hw : galleylaw03_wakes.f (3 * l0.length + 100) = some true := at_rounds galleylaw03_wakes.mono (by omega) (show galleylaw03_wakes.f 40 = some true by kernel_rfl)
  have hc : galleylaw03_copied.f l0 = some l0 := by
    unfold galleylaw03_copied.f
    simp
    omega
  unfold galleylaw03_UnitsFromExact.f
  rw [hw, hc]
  simp only [Option.bind_some, if_true]
  rw [exact_f _ l0 hu (by omega) (by omega), ref_exact_f _ l0 hu (by omega) (by omega)]
  simp
end Go.Proofs.YtcdehlnkilcgaaaDoor.Pure
