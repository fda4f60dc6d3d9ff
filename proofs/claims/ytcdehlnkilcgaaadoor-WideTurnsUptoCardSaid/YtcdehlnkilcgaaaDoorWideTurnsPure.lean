/- The law WideTurns, over numbers alone. -/
import Derived.Test.YtcdehlnkilcgaaaDoorWideTurnsM15
import Derived.Test.YtcdehlnkilcgaaaDoorWideTurnsQ
namespace Go.Proofs.YtcdehlnkilcgaaaDoor.Pure
open Go.RowKit Go.Proofs.YtcdehlnkilcgaaaDoor.Q Go.Proofs.YtcdehlnkilcgaaaDoorW.PrintWords
theorem own32_f (l : List Int) (h : l.length ≤ 16777216) : galleylaw32_own.f l = some l := by
  unfold galleylaw32_own.f; (simp); omega
theorem WideTurns (l0 : List Int) (a1 a2 : Bool) (h0 : l0.length ≤ 1048576) (hb : ∀ x ∈ l0, 0 ≤ x ∧ x ≤ 255) : ∃ k, galleylaw32_WideTurns.f k l0 a1 a2 = some true := by
  refine ⟨10 * l0.length + 200, ?_⟩; obtain ⟨k, hk⟩ : ∃ k, 10 * l0.length + 200 = k := ⟨_, rfl⟩; rw [hk]; have hw : galleylaw32_awake.f k = some true := at_rounds galleylaw32_awake.mono (by omega) (show galleylaw32_awake.f 40 = some true by kernel_rfl); unfold galleylaw32_WideTurns.f; rw [hw, Option.bind_some, if_pos rfl, own32_f l0 (by omega), Option.bind_some, swap_f k l0 (by omega) (by omega), Option.bind_some]; by_cases h : l0.length % 2 = 0
  · (have e : swapW l0 = (swB l0, 0) := by unfold swapW; rw [if_pos h]); have hl := sw_len (l0.length / 2) l0 (by omega); have hs := sw_bytes (l0.length / 2) l0 (by omega) hb
    have e2 : swapW (swB l0) = (l0, 0) := by
      unfold swapW; rw [if_pos (by omega), sw_sw (l0.length / 2) l0 (by omega)]
    have hd : decW (swB l0) (!a1) a2 = decW l0 a1 a2 := by
      unfold decW; rw [if_pos (by omega), if_pos h, sw_un a1 (l0.length / 2) l0 (by omega)]
    rw [e, if_pos rfl, own32_f (swB l0) (by omega), Option.bind_some, swap_f k (swB l0) (by omega) (by omega), Option.bind_some, Option.bind_some, decode_f k l0 a1 a2 hb (by omega) (by omega), Option.bind_some, Option.bind_some, decode_f k (swB l0) (!a1) a2 hs (by omega) (by omega), Option.bind_some, hd, e2, if_pos (by omega), if_pos rfl, if_pos rfl, if_pos rfl, if_pos rfl, beq_self_eq_true]
  · (have e : swapW l0 = ([], 320) := by unfold swapW; rw [if_neg h]); (have hd : decW l0 a1 a2 = ([], (l0.length : Int) - 1, 320) := by unfold decW; rw [if_neg h]); rw [e, if_neg (by simp), Option.bind_some, decode_f k l0 a1 a2 hb (by omega) (by omega), Option.bind_some, hd, if_pos (by omega), if_pos rfl, if_pos rfl, if_pos (by rw [w64 (by omega) (by omega)])]; rfl
end Go.Proofs.YtcdehlnkilcgaaaDoor.Pure
