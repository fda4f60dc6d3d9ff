/- The law UnitsPairs, over numbers alone. -/
import Derived.Test.YtcdehlnkilcgaaaDoorQUnitsPairs
import Derived.Test.YtcdehlnkilcgaaaDoorM1
namespace Go.Proofs.YtcdehlnkilcgaaaDoor.Pure
open Go.Proofs.YtcdehlnkilcgaaaDoor.Q
theorem wakes_true : galleylaw03_wakes.f 40 = some true := by kernel_rfl
theorem UnitsPairs (a0 a1 : Int) (h1 : 0 ≤ a0) (h1' : a0 ≤ 65535) (h2 : 0 ≤ a1) (h2' : a1 ≤ 65535) : ∃ k, galleylaw03_UnitsPairs.f k a0 a1 = some true := by
  refine ⟨40, ?_⟩
  unfold galleylaw03_UnitsPairs.f
  rw [wakes_true, join_f a0 a1 h1 h1' h2 h2']
  simp only [Option.bind_some, if_true]
  unfold joinP
  by_cases h : (55296 ≤ a0 ∧ a0 ≤ 56319) ∧ (56320 ≤ a1 ∧ a1 ≤ 57343)
  · rw [if_pos h]
    simp only [if_true]
    rw [split_f 40 (by omega), len_f 40 (by omega)]
    have e : splitP (65536 + (a0 - 55296) * 1024 + (a1 - 56320)) = (a0, a1, true) := by
      unfold splitP
      rw [if_pos (by omega)]
      congr 1
      · omega
      · congr 1
        omega
    rw [e, (lenP_two _).2 (by omega)]
    simp only [Option.bind_some, if_true]
    rw [if_pos (by omega), decide_eq_true (by omega)]
  · rw [if_neg h]
    simp
    omega
end Go.Proofs.YtcdehlnkilcgaaaDoor.Pure
