/- Plain: the steps of a list of bytes, as the model's own decoder tells them. -/
import Derived.Test.YtcdehlnkilcgaaaDoorWideTurnsQm
namespace Go.Proofs.YtcdehlnkilcgaaaDoor.Pure
open Go.RowKit Go.Proofs.YtcdehlnkilcgaaaDoor.Q Go.Proofs.YtcdehlnkilcgaaaDoorW.PrintWords
def in3 (x y : Int) : Prop := (x = 224 ∧ 160 ≤ y ∧ y ≤ 191) ∨ (225 ≤ x ∧ x ≤ 236 ∧ 128 ≤ y ∧ y ≤ 191) ∨ (x = 237 ∧ 128 ≤ y ∧ y ≤ 159) ∨ (238 ≤ x ∧ x ≤ 239 ∧ 128 ≤ y ∧ y ≤ 191)
def in4 (x y : Int) : Prop := (x = 240 ∧ 144 ≤ y ∧ y ≤ 191) ∨ (241 ≤ x ∧ x ≤ 243 ∧ 128 ≤ y ∧ y ≤ 191) ∨ (x = 244 ∧ 128 ≤ y ∧ y ≤ 143)
instance (x y : Int) : Decidable (in3 x y) := by unfold in3; infer_instance
instance (x y : Int) : Decidable (in4 x y) := by unfold in4; infer_instance
/-- How many bytes the encoding has that these begin with; 0: none. -/
def lng4 (x y z w : Int) : Nat :=
  if 0 ≤ x ∧ x ≤ 127 then 1 else if (194 ≤ x ∧ x ≤ 223) ∧ (128 ≤ y ∧ y ≤ 191) then 2 else if (128 ≤ z ∧ z ≤ 191) ∧ in3 x y then 3
  else if (128 ≤ z ∧ z ≤ 191) ∧ (128 ≤ w ∧ w ≤ 191) ∧ in4 x y then 4 else 0
def val4 (n : Nat) (x y z w : Int) : Int :=
  if n = 1 then x else if n = 2 then x % 32 * 64 + y % 64 else if n = 3 then (x % 16 * 64 + y % 64) * 64 + z % 64 else if n = 4 then ((x % 8 * 64 + y % 64) * 64 + z % 64) * 64 + w % 64 else 65533
def lng (l : List Int) : Nat := lng4 (l.getD 0 (-1)) (l.getD 1 (-1)) (l.getD 2 (-1)) (l.getD 3 (-1))
def run (l : List Int) : Int := val4 (lng l) (l.getD 0 (-1)) (l.getD 1 (-1)) (l.getD 2 (-1)) (l.getD 3 (-1))
def bytes (l : List Int) : Prop := ∀ x ∈ l, 0 ≤ x ∧ x ≤ 255
end Go.Proofs.YtcdehlnkilcgaaaDoor.Pure
