/- The law UnitsTo, over numbers alone. -/
import Derived.Test.YtcdehlnkilcgaaaDoorQUnitsTo
import Derived.Test.YtcdehlnkilcgaaaDoorM6
namespace Go.Proofs.YtcdehlnkilcgaaaDoor.Pure
open Go.RowKit Go.Proofs.YtcdehlnkilcgaaaDoor.Q Go.Proofs.YtcdehlnkilcgaaaDoorW.PrintWords
theorem wakes_at (k : Nat) (hk : 40 ≤ k) : galleylaw03_wakes.f k = some true :=
  at_rounds galleylaw03_wakes.mono hk (by kernel_rfl)
theorem UnitsTo (l0 : List Int) (h0 : l0.length ≤ 1048576) (hb : ∀ x ∈ l0, 0 ≤ x ∧ x ≤ 255) : ∃ k, galleylaw03_UnitsTo.f k l0 = some true := by
  refine ⟨2 * l0.length + 100, ?_⟩
  have b1 := flat_len (g := seen) seen_len (l0.length + 1) l0
  have b2 := flat_len (g := exact) exact_len (l0.length + 1) l0
  unfold galleylaw03_UnitsTo.f
  rw [wakes_at _ (by omega)]
  simp only [Option.bind_some, if_true, List.nil_append, List.length_nil, Nat.zero_add]
  rw [if_pos (by omega), to_f _ l0 hb h0 (by omega), toExact_f _ l0 hb h0 (by omega), ref_to_f _ l0 hb h0 (by omega), ref_toExact_f _ l0 hb h0 (by omega)]
  simp only [Option.bind_some]
  rw [same_f _ _ _ (by omega) (by omega), same_f _ _ _ (by omega) (by omega)]
  simp [if_pos (show l0.length < 140737488355328 by omega)]
end Go.Proofs.YtcdehlnkilcgaaaDoor.Pure
