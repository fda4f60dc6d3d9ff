/- Plain: Decode, Swap and Guess of package wide. -/
import Derived.Test.YtcdehlnkilcgaaaDoorWideSwapsM13
import Derived.Test.YtcdehlnkilcgaaaDoorWideSwapsM10
namespace Go.Proofs.YtcdehlnkilcgaaaDoor.Pure
open Go.RowKit Go.Proofs.YtcdehlnkilcgaaaDoor.Q Go.Proofs.YtcdehlnkilcgaaaDoorW.PrintWords
theorem rdD (a : List Int) (x y : Int) (r : List Int) : rd (a ++ x :: y :: r) ((a.length : Nat) : Int) = x ∧ rd (a ++ x :: y :: r) (((a.length + 1 : Nat)) : Int) = y := by
  constructor; · exact rd_mid a (y :: r) x
  · have := rd_mid (a ++ [x]) r y; rw [List.append_assoc] at this; simpa using this
def swB : List Int → List Int
  | x :: y :: r => y :: x :: swB r
  | _ => []
theorem sw_wr (us : List Int) : swB (wr false us) = wr true us := by
  induction us with
  | nil => rfl
  | cons u us ih =>
    rw [wr_cons, wr_cons]; simp [pairB, swB, ih]
def gueB (l : List Int) : Bool × Bool := if l.getD 0 (-1) = 254 ∧ l.getD 1 (-1) = 255 then (true, true) else if l.getD 0 (-1) = 255 ∧ l.getD 1 (-1) = 254 then (false, true) else (false, false)
theorem guess_f (l : List Int) (hb : bytes l) : wide_Guess.f l = some (gueB l) := by
  unfold wide_Guess.f gueB; by_cases h : (l.length : Int) < 2
  · have h1 : l.getD 1 (-1) = -1 := by
      simp [List.getD_eq_getElem?_getD, List.getElem?_eq_none (show l.length ≤ 1 by omega)]
    rw [if_pos h, if_neg (by omega), if_neg (by omega)]
  · match l, hb, h with
    | [x], _, h => exact absurd (by simp) h
    | x :: y :: r, hb, h =>
      have hx := hb x (by simp); have hy := hb y (by simp); rw [if_neg h, if_pos (by simp; omega), if_pos (by simp; omega), rd0, rd1, or_u16 x y hx hy]; simp only [List.getD_cons_zero, List.getD_cons_succ]; by_cases a : x = 254 ∧ y = 255; · rw [if_pos (by omega), if_pos a]
      · rw [if_neg (by omega), if_neg a]; by_cases b : x = 255 ∧ y = 254; · rw [if_pos (by omega), if_pos b]
        · rw [if_neg (by omega), if_neg b]
end Go.Proofs.YtcdehlnkilcgaaaDoor.Pure
