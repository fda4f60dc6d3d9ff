/- Plain: the reference's Long is the length of the encoding; the steps' beginnings. -/
import Derived.Test.YtcdehlnkilcgaaaDoorWideAnswersM1
import Derived.Test.YtcdehlnkilcgaaaDoorWideAnswersM2
import Derived.Test.YtcdehlnkilcgaaaDoorWideAnswersQg
namespace Go.Proofs.YtcdehlnkilcgaaaDoor.Pure
open Go.RowKit Go.Proofs.YtcdehlnkilcgaaaDoor.Q Go.Proofs.YtcdehlnkilcgaaaDoorW.PrintWords
theorem in_f (x a b : Int) : galleyref02_in.f x a b = some (decide (a ≤ x ∧ x ≤ b)) := by
  unfold galleyref02_in.f; by_cases h : x ≥ a; · rw [if_pos h]; simp; omega
  · rw [if_neg h]; simp; omega
theorem rd_eq (l : List Int) (p : Nat) (h : p < l.length) : rd l (p : Int) = l.getD p (-1) := by
  simp [rd, List.getD_eq_getElem?_getD, h]
theorem getD_bytes (l : List Int) (hb : bytes l) (p : Nat) : -1 ≤ l.getD p (-1) ∧ l.getD p (-1) ≤ 255 := by
  by_cases h : p < l.length; · have := hb l[p] (List.getElem_mem h); (simp [List.getD_eq_getElem?_getD, h]); omega
  · simp [List.getD_eq_getElem?_getD, List.getElem?_eq_none (by omega : l.length ≤ p)]
theorem getD_lt (l : List Int) (p : Nat) (h : l.getD p (-1) ≠ -1) : p < l.length := by
  rcases Nat.lt_or_ge p l.length with h' | h'
  · exact h'
  · exact absurd (by simp [List.getD_eq_getElem?_getD, List.getElem?_eq_none h']) h
theorem at_f (l : List Int) (hb : bytes l) (p : Nat) : galleyref02_at.f l (p : Int) = some (l.getD p (-1)) := by
  unfold galleyref02_at.f; rw [if_neg (by omega)]; by_cases h : p < l.length; · have h2 := getD_bytes l hb p; rw [if_neg (by omega), if_pos (by omega), if_pos (by omega), rd_eq l p h, w64 (by omega) (by omega)]
  · rw [if_pos (by omega)]; simp [List.getD_eq_getElem?_getD, List.getElem?_eq_none (by omega : l.length ≤ p)]
theorem long_j2 (k : Nat) (x y : Int) (t : Bool) : galleyref02_Long.j2 (k + 1) x y t = some (if t = true ∧ in4 x y then 4 else 0) := by
  simp only [galleyref02_Long.j2, in_f, Option.bind_some, decide_eq_true_eq]; unfold in4
  cases t with
  | false => simp
  | true =>
    simp only [true_and, if_true]; repeat' split
    all_goals first
      | rfl
      | (exfalso; omega)
theorem long_j1 (k : Nat) (x y z w : Int) : galleyref02_Long.j1 (k + 2) x y z w = some (if (128 ≤ z ∧ z ≤ 191) ∧ (128 ≤ w ∧ w ≤ 191) ∧ in4 x y then 4 else 0) := by
  rw [galleyref02_Long.j1]; simp only [in_f, Option.bind_some, decide_eq_true_eq, long_j2]; by_cases h : 128 ≤ z ∧ z ≤ 191; · rw [if_pos h]; simp [h]
  · rw [if_neg h]; simp [h]
set_option maxHeartbeats 1600000 in
theorem long_j0 (k : Nat) (x y z w : Int) (t : Bool) : galleyref02_Long.j0 (k + 1) x y z w t = if t = true then some 2 else if (128 ≤ z ∧ z ≤ 191) ∧ in3 x y then some 3 else galleyref02_Long.j1 k x y z w := by
  simp only [galleyref02_Long.j0, in_f, Option.bind_some, decide_eq_true_eq]; generalize galleyref02_Long.j1 k x y z w = q
  cases t with
  | true => rfl
  | false =>
    simp only [Bool.false_eq_true, if_false]; by_cases h : 128 ≤ z ∧ z ≤ 191
    · by_cases hi : in3 x y
      · rw [show (if (128 ≤ z ∧ z ≤ 191) ∧ in3 x y then some 3 else q) = some 3 from if_pos ⟨h, hi⟩, if_pos h]; unfold in3 at hi; repeat' split
        all_goals first
          | rfl
          | (exfalso; omega)
      · rw [show (if (128 ≤ z ∧ z ≤ 191) ∧ in3 x y then some 3 else q) = q from if_neg (fun e => hi e.2), if_pos h]; unfold in3 at hi; repeat' split
        all_goals first
          | rfl
          | (exfalso; omega)
    · rw [if_neg h, if_neg (fun e => h e.1)]
theorem long_f (k : Nat) (hk : 3 ≤ k) (l : List Int) (hb : bytes l) (p : Nat) (hp : p ≤ 1099511627776) : galleyref02_Long.f k l (p : Int) = some ((lng (l.drop p) : Nat) : Int) := by
  obtain ⟨k, rfl⟩ : ∃ m, k = m + 3 := ⟨k - 3, by omega⟩; (have hd : ∀ j, (l.drop p).getD j (-1) = l.getD (p + j) (-1) := fun j => by simp [List.getD_eq_getElem?_getD, List.getElem?_drop]); unfold galleyref02_Long.f lng; rw [w64 (by omega) (by omega), w64 (by omega) (by omega), w64 (by omega) (by omega)]; rw [show ((p : Int) + 1) = ((p + 1 : Nat) : Int) by omega, show ((p : Int) + 2) = ((p + 2 : Nat) : Int) by omega, show ((p : Int) + 3) = ((p + 3 : Nat) : Int) by omega]; rw [at_f l hb, at_f l hb, at_f l hb, at_f l hb, hd 0, hd 1, hd 2, hd 3]; simp only [Option.bind_some, in_f, decide_eq_true_eq, long_j0, long_j1, Nat.add_zero]; generalize l.getD p (-1) = x; generalize l.getD (p + 1) (-1) = y; generalize l.getD (p + 2) (-1) = z; generalize l.getD (p + 3) (-1) = w; unfold lng4; by_cases h1 : 0 ≤ x ∧ x ≤ 127; · rw [if_pos h1, if_pos h1]; rfl
  · rw [if_neg h1, if_neg h1]; by_cases h2 : 194 ≤ x ∧ x ≤ 223
    · rw [if_pos h2]; by_cases h3 : 128 ≤ y ∧ y ≤ 191; · rw [if_pos h3, if_pos ⟨h2, h3⟩]; rfl
      · rw [if_neg (by simpa using h3), if_neg (show ¬ ((194 ≤ x ∧ x ≤ 223) ∧ 128 ≤ y ∧ y ≤ 191) from fun h => h3 h.2)]; by_cases h4 : (128 ≤ z ∧ z ≤ 191) ∧ in3 x y; · rw [if_pos h4, if_pos h4]; rfl
        · rw [if_neg h4, if_neg h4]; by_cases h5 : (128 ≤ z ∧ z ≤ 191) ∧ (128 ≤ w ∧ w ≤ 191) ∧ in4 x y; · rw [if_pos h5, if_pos h5]; rfl
          · rw [if_neg h5, if_neg h5]; rfl
    · rw [if_neg h2]; simp only [Bool.false_eq_true, if_false]; rw [if_neg (show ¬ ((194 ≤ x ∧ x ≤ 223) ∧ 128 ≤ y ∧ y ≤ 191) from fun h => h2 h.1)]; by_cases h4 : (128 ≤ z ∧ z ≤ 191) ∧ in3 x y; · rw [if_pos h4, if_pos h4]; rfl
      · rw [if_neg h4, if_neg h4]; by_cases h5 : (128 ≤ z ∧ z ≤ 191) ∧ (128 ≤ w ∧ w ≤ 191) ∧ in4 x y; · rw [if_pos h5, if_pos h5]; rfl
        · rw [if_neg h5, if_neg h5]; rfl
theorem lng_le4 (l : List Int) : lng l ≤ 4 := by
  unfold lng lng4; (repeat' split); all_goals omega
theorem lng_le (l : List Int) : lng l ≤ l.length := by
  have h0 := getD_lt l 0; have h1 := getD_lt l 1; have h2 := getD_lt l 2; have h3 := getD_lt l 3; unfold lng lng4; repeat' split
  all_goals first
    | omega
    | (rename_i h; unfold in4 at h; omega)
/-- What stands inside an encoding is no beginning of one. -/
theorem lng_tail (l : List Int) (j : Nat) (h0 : 0 < j) (h : j < lng l) : 128 ≤ l.getD j (-1) ∧ l.getD j (-1) ≤ 191 := by
  unfold lng lng4 in3 in4 at h
  match j, h0 with
  | 1, _ => repeat' split at h
            all_goals omega
  | 2, _ => repeat' split at h
            all_goals omega
  | 3, _ => repeat' split at h
            all_goals omega
  | j + 4, _ =>
    (exfalso); (repeat' split at h); all_goals omega
theorem lng_cont (l : List Int) (h : 128 ≤ l.getD 0 (-1) ∧ l.getD 0 (-1) ≤ 191) : lng l = 0 := by
  unfold lng lng4 in3 in4; (repeat' split); all_goals omega
end Go.Proofs.YtcdehlnkilcgaaaDoor.Pure
