/- Plain: encodings, and From of the program and of the reference. -/
import Derived.Test.YtcdehlnkilcgaaaDoorWideSwapsM5
import Derived.Test.YtcdehlnkilcgaaaDoorWideSwapsQc
import Derived.Test.YtcdehlnkilcgaaaDoorWideSwapsQ0
namespace Go.Proofs.YtcdehlnkilcgaaaDoor.Pure
open Go.RowKit Go.Proofs.YtcdehlnkilcgaaaDoor.Q Go.Proofs.YtcdehlnkilcgaaaDoorW.PrintWords
/-- The bytes of a rune. -/
def encP (r : Int) : List Int := if r < 128 then [r] else if r < 2048 then [192 + r / 64, 128 + r % 64] else if 55296 ≤ r ∧ r ≤ 57343 then [239, 191, 189] else if r < 65536 then [224 + r / 4096, 128 + r / 64 % 64, 128 + r % 64] else [240 + r / 262144, 128 + r / 4096 % 64, 128 + r / 64 % 64, 128 + r % 64]
def hi (u : Int) : Prop := 55296 ≤ u ∧ u ≤ 56319
def lo (u : Int) : Prop := 56320 ≤ u ∧ u ≤ 57343
instance (u : Int) : Decidable (hi u) := by unfold hi; infer_instance
instance (u : Int) : Decidable (lo u) := by unfold lo; infer_instance
def two (m : List Int) : Prop := hi (m.getD 0 (-1)) ∧ lo (m.getD 1 (-1))
instance (m : List Int) : Decidable (two m) := by unfold two; infer_instance
def half (m : List Int) : Prop := ¬ two m ∧ (hi (m.getD 0 (-1)) ∨ lo (m.getD 0 (-1)))
instance (m : List Int) : Decidable (half m) := by unfold half; infer_instance
def u16s (l : List Int) : Prop := ∀ x ∈ l, 0 ≤ x ∧ x ≤ 65535
end Go.Proofs.YtcdehlnkilcgaaaDoor.Pure
