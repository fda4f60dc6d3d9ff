/- Plain: encodings and runs, there and back. -/
import Derived.Test.YtcdehlnkilcgaaaDoorWideAnswersM9
namespace Go.Proofs.YtcdehlnkilcgaaaDoor.Pure
open Go.RowKit Go.Proofs.YtcdehlnkilcgaaaDoor.Q Go.Proofs.YtcdehlnkilcgaaaDoorW.PrintWords
def scalar (r : Int) : Prop := 0 ≤ r ∧ r ≤ 1114111 ∧ ¬ (55296 ≤ r ∧ r ≤ 57343)
theorem take1 (m : List Int) (h : 1 ≤ m.length) : m.take 1 = [m.getD 0 (-1)] := by
  match m, h with
  | _ :: _, _ => rfl
theorem take2 (m : List Int) (h : 2 ≤ m.length) : m.take 2 = [m.getD 0 (-1), m.getD 1 (-1)] := by
  match m, h with
  | _ :: _ :: _, _ => rfl
theorem take3 (m : List Int) (h : 3 ≤ m.length) : m.take 3 = [m.getD 0 (-1), m.getD 1 (-1), m.getD 2 (-1)] := by
  match m, h with
  | _ :: _ :: _ :: _, _ => rfl
theorem take4 (m : List Int) (h : 4 ≤ m.length) : m.take 4 = [m.getD 0 (-1), m.getD 1 (-1), m.getD 2 (-1), m.getD 3 (-1)] := by
  match m, h with
  | _ :: _ :: _ :: _ :: _, _ => rfl
/-- What is read as an encoding is the encoding of its rune. -/
theorem enc_run4 (x y z w : Int) (n : Nat) (h : lng4 x y z w = n) (h0 : n ≠ 0) : scalar (val4 n x y z w) ∧ encP (val4 n x y z w) = [x, y, z, w].take n := by
  unfold lng4 in3 in4 at h; repeat' split at h
  all_goals
    subst h; unfold scalar encP; simp only [val4, Nat.reduceEqDiff, if_true, if_false, List.take_succ_cons, List.take_zero]
  · (rename_i a); rw [if_pos (by omega)]; exact ⟨by omega, rfl⟩
  · (rename_i a); rw [if_neg (by omega), if_pos (by omega)]; refine ⟨by omega, ?_⟩; rw [show 192 + (x % 32 * 64 + y % 64) / 64 = x by omega, show 128 + (x % 32 * 64 + y % 64) % 64 = y by omega]
  · (rename_i a); rw [if_neg (by omega), if_neg (by omega), if_neg (by omega), if_pos (by omega)]; refine ⟨by omega, ?_⟩; rw [show 224 + ((x % 16 * 64 + y % 64) * 64 + z % 64) / 4096 = x by omega, show 128 + ((x % 16 * 64 + y % 64) * 64 + z % 64) / 64 % 64 = y by omega, show 128 + ((x % 16 * 64 + y % 64) * 64 + z % 64) % 64 = z by omega]
  · (rename_i a); rw [if_neg (by omega), if_neg (by omega), if_neg (by omega), if_neg (by omega)]; refine ⟨by omega, ?_⟩; rw [show 240 + (((x % 8 * 64 + y % 64) * 64 + z % 64) * 64 + w % 64) / 262144 = x by omega, show 128 + (((x % 8 * 64 + y % 64) * 64 + z % 64) * 64 + w % 64) / 4096 % 64 = y by omega, show 128 + (((x % 8 * 64 + y % 64) * 64 + z % 64) * 64 + w % 64) / 64 % 64 = z by omega, show 128 + (((x % 8 * 64 + y % 64) * 64 + z % 64) * 64 + w % 64) % 64 = w by omega]
  · exact absurd rfl h0
theorem enc_run (m : List Int) (h : lng m ≠ 0) : scalar (run m) ∧ encP (run m) = m.take (lng m) := by
  have h4 := lng_le4 m; have hl := lng_le m; have key := enc_run4 (m.getD 0 (-1)) (m.getD 1 (-1)) (m.getD 2 (-1)) (m.getD 3 (-1)) (lng m) rfl h; refine ⟨key.1, key.2.trans ?_⟩; (have : lng m = 1 ∨ lng m = 2 ∨ lng m = 3 ∨ lng m = 4 := by omega); rcases this with e | e | e | e
  · rw [e, take1 m (by omega)]; rfl
  · rw [e, take2 m (by omega)]; rfl
  · rw [e, take3 m (by omega)]; rfl
  · rw [e, take4 m (by omega)]; rfl
theorem run_bad (m : List Int) (h : lng m = 0) : run m = 65533 := by unfold run; rw [h]; rfl
theorem run_scalar (m : List Int) : scalar (run m) := by
  by_cases h : lng m = 0; · rw [run_bad m h]; unfold scalar; omega
  · exact (enc_run m h).1
theorem head_bad (m : List Int) (hb : bytes m) (hm : m ≠ []) (h : lng m = 0) : 128 ≤ m.getD 0 (-1) ∧ m.getD 0 (-1) ≤ 255 := by
  have h0 := hb _ (List.getElem_mem (List.length_pos_iff.2 hm)); (have e : m.getD 0 (-1) = m[0]'(List.length_pos_iff.2 hm) := by simp [List.getD_eq_getElem?_getD, List.length_pos_iff.2 hm]); rw [e]; unfold lng lng4 at h; rw [e] at h; by_cases a : m[0]'(List.length_pos_iff.2 hm) ≤ 127; · rw [if_pos ⟨h0.1, a⟩] at h; omega
  · omega
def tells (g : List Int → List Int) (m : List Int) : List Int := (sufs (m.length + 1) m).flatMap g
theorem exact_bad (m : List Int) (h : lng m = 0) : exact m = [56320 + m.getD 0 (-1)] := by unfold exact; rw [if_pos h]
theorem exact_good (m : List Int) (h : lng m ≠ 0) : exact m = unitsOf (run m) := by unfold exact; rw [if_neg h]
end Go.Proofs.YtcdehlnkilcgaaaDoor.Pure
