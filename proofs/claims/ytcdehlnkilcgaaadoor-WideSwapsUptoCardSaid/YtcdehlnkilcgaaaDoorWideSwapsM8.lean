/- Plain: whole encodings, joins and FromExact of the program and of the reference. -/
import Derived.Test.YtcdehlnkilcgaaaDoorWideSwapsM7
import Derived.Test.YtcdehlnkilcgaaaDoorWideSwapsQe
import Derived.Test.YtcdehlnkilcgaaaDoorWideSwapsQ0
namespace Go.Proofs.YtcdehlnkilcgaaaDoor.Pure
open Go.RowKit Go.Proofs.YtcdehlnkilcgaaaDoor.Q Go.Proofs.YtcdehlnkilcgaaaDoorW.PrintWords
def secP (x y : Int) : Prop := (x = 224 ∧ 160 ≤ y ∧ y ≤ 191) ∨ (x = 237 ∧ 128 ≤ y ∧ y ≤ 159) ∨ (x = 240 ∧ 144 ≤ y ∧ y ≤ 191) ∨ (x = 244 ∧ 128 ≤ y ∧ y ≤ 143) ∨ (194 ≤ x ∧ x ≤ 244 ∧ x ≠ 224 ∧ x ≠ 237 ∧ x ≠ 240 ∧ x ≠ 244 ∧ 128 ≤ y ∧ y ≤ 191)
instance (x y : Int) : Decidable (secP x y) := by unfold secP; infer_instance
/-- A list of one to four bytes is a whole encoding. -/
def wholeP (b : List Int) : Prop := 0 < b.length ∧ lng b = b.length
instance (b : List Int) : Decidable (wholeP b) := by unfold wholeP; infer_instance
theorem rd0 (x : Int) (r : List Int) : rd (x :: r) 0 = x := by simp [rd]
theorem rd1 (x y : Int) (r : List Int) : rd (x :: y :: r) 1 = y := by simp [rd]
end Go.Proofs.YtcdehlnkilcgaaaDoor.Pure
