/- Plain: what From and FromExact take is told again as the units. -/
import Derived.Test.YtcdehlnkilcgaaaDoorWideAnswersM10
namespace Go.Proofs.YtcdehlnkilcgaaaDoor.Pure
open Go.RowKit Go.Proofs.YtcdehlnkilcgaaaDoor.Q Go.Proofs.YtcdehlnkilcgaaaDoorW.PrintWords
/-- Where they refuse. -/
theorem from_fail : ∀ (f : Nat) (m : List Int) (i : Nat) (out : List Int), (fromP f m i out).2.2 ≠ 0 → (fromP f m i out).1 = [] ∧ (i : Int) ≤ (fromP f m i out).2.1 ∧ (fromP f m i out).2.1 < ((i + m.length : Nat) : Int) := by
  intro f
  induction f with
  | zero => intro m i out h; exact absurd rfl h
  | succ f ih =>
    intro m i out h; by_cases hm : m = []; · rw [fromP, if_pos hm] at h; exact absurd rfl h
    · rw [fromP, if_neg hm] at h ⊢; have hp := List.length_pos_iff.2 hm; have hn := nA_le m hm; by_cases hh : half m; · rw [if_pos hh]; exact ⟨rfl, by simp, by simp; omega⟩
      · rw [if_neg hh] at h ⊢; have := ih _ _ _ h; simp only [List.length_drop] at this; exact ⟨this.1, by omega, by omega⟩
theorem back_fail : ∀ (f : Nat) (m : List Int) (i : Nat) (out : List Int), (backP f m i out).2.2 ≠ 0 → (backP f m i out).1 = [] ∧ (i : Int) ≤ (backP f m i out).2.1 ∧ (backP f m i out).2.1 < ((i + m.length : Nat) : Int) := by
  intro f
  induction f with
  | zero => intro m i out h; exact absurd rfl h
  | succ f ih =>
    intro m i out h; by_cases hm : m = []; · rw [backP, if_pos hm] at h; exact absurd rfl h
    · rw [backP, if_neg hm] at h ⊢; have hp := List.length_pos_iff.2 hm; have hn := nA_le m hm; by_cases hh : half m
      · rw [if_pos hh] at h ⊢; by_cases h1 : one (m.getD 0 (-1))
        · rw [if_pos h1] at h ⊢; by_cases hj : joinsP 4 m [] = true; · rw [if_pos hj]; exact ⟨rfl, by simp, by simp; omega⟩
          · rw [if_neg hj] at h ⊢; have := ih _ _ _ h; simp only [List.length_drop] at this; exact ⟨this.1, by omega, by omega⟩
        · rw [if_neg h1]; exact ⟨rfl, by simp, by simp; omega⟩
      · rw [if_neg hh] at h ⊢; have := ih _ _ _ h; simp only [List.length_drop] at this; exact ⟨this.1, by omega, by omega⟩
end Go.Proofs.YtcdehlnkilcgaaaDoor.Pure
