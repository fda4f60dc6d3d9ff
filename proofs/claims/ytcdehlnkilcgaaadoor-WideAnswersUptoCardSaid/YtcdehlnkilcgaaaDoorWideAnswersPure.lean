/- The law WideAnswers, over numbers alone. -/
import Derived.Test.YtcdehlnkilcgaaaDoorWideAnswersM16
import Derived.Test.YtcdehlnkilcgaaaDoorWideAnswersQ
namespace Go.Proofs.YtcdehlnkilcgaaaDoor.Pure
open Go.RowKit Go.Proofs.YtcdehlnkilcgaaaDoor.Q Go.Proofs.YtcdehlnkilcgaaaDoorW.PrintWords
theorem own32_f (l : List Int) (h : l.length ≤ 16777216) : galleylaw32_own.f l = some l := by
  unfold galleylaw32_own.f; (simp); omega
theorem answers_l0 (l0 : List Int) (h0 : l0.length ≤ 1048576) (hb : bytes l0) : ∀ (d k : Nat) (x3 : Int), 0 ≤ x3 → x3 + d = 8 → d + 10 * l0.length + 150 ≤ k → galleylaw32_WideAnswers.l0 k l0 x3 = some true := by
  intro d
  induction d with
  | zero =>
    intro k x3 h1 h2 hk; obtain ⟨k, rfl⟩ : ∃ m, k = m + 1 := ⟨k - 1, by omega⟩
    rw [galleylaw32_WideAnswers.l0, if_neg (by omega), own32_f l0 (by omega), Option.bind_some, guess_f l0 hb, Option.bind_some, ref_guess_f l0, Option.bind_some, Option.bind_some, swap_f k l0 (by omega) (by omega), Option.bind_some, ref_swap_f k l0 (by omega) (by omega), Option.bind_some, beq_self_eq_true, if_pos rfl, beq_self_eq_true, if_pos rfl, if_pos rfl, beq_self_eq_true]
  | succ d ih =>
    intro k x3 h1 h2 hk; obtain ⟨k, rfl⟩ : ∃ m, k = m + 1 := ⟨k - 1, by omega⟩; rw [galleylaw32_WideAnswers.l0, if_pos (by omega), own32_f l0 (by omega), Option.bind_some, encode_f k l0 _ _ _ hb (by omega) (by omega), Option.bind_some, ref_encode_f k l0 _ _ _ hb (by omega) (by omega), Option.bind_some, if_pos rfl, Option.bind_some, decode_f k l0 _ _ hb (by omega) (by omega), Option.bind_some, ref_decode_f k l0 _ _ hb (by omega) (by omega), Option.bind_some, if_pos rfl, if_pos rfl, if_pos rfl, w64 (by omega) (by omega)]; exact ih k (x3 + 1) (by omega) (by omega) (by omega)
theorem WideAnswers (l0 : List Int) (h0 : l0.length ≤ 1048576) (hb : ∀ x ∈ l0, 0 ≤ x ∧ x ≤ 255) : ∃ k, galleylaw32_WideAnswers.f k l0 = some true := by
  refine ⟨20 * l0.length + 300, ?_⟩; obtain ⟨k, hk⟩ : ∃ k, 20 * l0.length + 300 = k := ⟨_, rfl⟩; rw [hk]; have hw : galleylaw32_awake.f k = some true := at_rounds galleylaw32_awake.mono (by omega) (show galleylaw32_awake.f 40 = some true by kernel_rfl); unfold galleylaw32_WideAnswers.f; rw [hw, Option.bind_some, if_pos rfl]; exact answers_l0 l0 h0 hb 8 k 0 (by omega) (by omega) (by omega)
end Go.Proofs.YtcdehlnkilcgaaaDoor.Pure
