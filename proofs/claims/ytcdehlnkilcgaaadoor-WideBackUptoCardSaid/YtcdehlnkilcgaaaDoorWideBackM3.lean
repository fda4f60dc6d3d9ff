/- Plain: the reference's Long is the length of the encoding; the steps' beginnings. -/
import Derived.Test.YtcdehlnkilcgaaaDoorWideBackM1
import Derived.Test.YtcdehlnkilcgaaaDoorWideBackM2
import Derived.Test.YtcdehlnkilcgaaaDoorWideBackQ0
namespace Go.Proofs.YtcdehlnkilcgaaaDoor.Pure
open Go.RowKit Go.Proofs.YtcdehlnkilcgaaaDoor.Q Go.Proofs.YtcdehlnkilcgaaaDoorW.PrintWords
theorem rd_eq (l : List Int) (p : Nat) (h : p < l.length) : rd l (p : Int) = l.getD p (-1) := by
  simp [rd, List.getD_eq_getElem?_getD, h]
theorem getD_bytes (l : List Int) (hb : bytes l) (p : Nat) : -1 ≤ l.getD p (-1) ∧ l.getD p (-1) ≤ 255 := by
  by_cases h : p < l.length; · have := hb l[p] (List.getElem_mem h); (simp [List.getD_eq_getElem?_getD, h]); omega
  · simp [List.getD_eq_getElem?_getD, List.getElem?_eq_none (by omega : l.length ≤ p)]
theorem getD_lt (l : List Int) (p : Nat) (h : l.getD p (-1) ≠ -1) : p < l.length := by
  rcases Nat.lt_or_ge p l.length with h' | h'
  · exact h'
  · exact absurd (by simp [List.getD_eq_getElem?_getD, List.getElem?_eq_none h']) h
theorem lng_le4 (l : List Int) : lng l ≤ 4 := by
  unfold lng lng4; (repeat' split); all_goals omega
theorem lng_le (l : List Int) : lng l ≤ l.length := by
  have h0 := getD_lt l 0; have h1 := getD_lt l 1; have h2 := getD_lt l 2; have h3 := getD_lt l 3; unfold lng lng4; repeat' split
  all_goals first
    | omega
    | (rename_i h; unfold in4 at h; omega)
/-- What stands inside an encoding is no beginning of one. -/
theorem lng_tail (l : List Int) (j : Nat) (h0 : 0 < j) (h : j < lng l) : 128 ≤ l.getD j (-1) ∧ l.getD j (-1) ≤ 191 := by
  unfold lng lng4 in3 in4 at h
  match j, h0 with
  | 1, _ => repeat' split at h
            all_goals omega
  | 2, _ => repeat' split at h
            all_goals omega
  | 3, _ => repeat' split at h
            all_goals omega
  | j + 4, _ =>
    (exfalso); (repeat' split at h); all_goals omega
theorem lng_cont (l : List Int) (h : 128 ≤ l.getD 0 (-1) ∧ l.getD 0 (-1) ≤ 191) : lng l = 0 := by
  unfold lng lng4 in3 in4; (repeat' split); all_goals omega
end Go.Proofs.YtcdehlnkilcgaaaDoor.Pure
