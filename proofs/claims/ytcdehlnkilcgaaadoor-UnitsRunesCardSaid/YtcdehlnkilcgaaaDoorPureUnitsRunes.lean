/- The law UnitsRunes, over numbers alone. -/
import Derived.Test.YtcdehlnkilcgaaaDoorQUnitsRunes
import Derived.Test.YtcdehlnkilcgaaaDoorM1
namespace Go.Proofs.YtcdehlnkilcgaaaDoor.Pure
open Go.Proofs.YtcdehlnkilcgaaaDoor.Q
theorem wakes_true : galleylaw03_wakes.f 40 = some true := by kernel_rfl
theorem UnitsRunes (a0 a1 a2 : Int) (_ : (-2147483648) ≤ a0) (_ : a0 ≤ 2147483647) (h1 : 0 ≤ a1) (h1' : a1 ≤ 65535) (h2 : 0 ≤ a2) (h2' : a2 ≤ 65535) : ∃ k, galleylaw03_UnitsRunes.f k a0 a1 a2 = some true := by
  refine ⟨40, ?_⟩
  unfold galleylaw03_UnitsRunes.f
  rw [wakes_true, split_f 40 (by omega), ref_split_f 40 (by omega), join_f a1 a2 h1 h1' h2 h2', ref_join_f a1 a2 h1 h1' h2 h2', len_f 40 (by omega), ref_len_f 40 (by omega)]
  simp
end Go.Proofs.YtcdehlnkilcgaaaDoor.Pure
