/- The law UnitsOnly, over numbers alone. -/
import Derived.Test.YtcdehlnkilcgaaaDoorQUnitsOnly
import Derived.Test.YtcdehlnkilcgaaaDoorM6
import Derived.Test.YtcdehlnkilcgaaaDoorM11
namespace Go.Proofs.YtcdehlnkilcgaaaDoor.Pure
open Go.RowKit Go.Proofs.YtcdehlnkilcgaaaDoor.Q Go.Proofs.YtcdehlnkilcgaaaDoorW.PrintWords
theorem UnitsOnly (l0 : List Int) (h0 : l0.length ≤ 1048576) (hu : ∀ x ∈ l0, 0 ≤ x ∧ x ≤ 65535) : ∃ k, galleylaw03_UnitsOnly.f k l0 = some true := by
  refine ⟨20 * l0.length + 200, ?_⟩
  obtain ⟨k, hk⟩ : ∃ k, 20 * l0.length + 200 = k + 2 := ⟨20 * l0.length + 198, by omega⟩
  rw [hk]
  have hw : galleylaw03_wakes.f (k + 2) = some true := at_rounds galleylaw03_wakes.mono (by omega) (show galleylaw03_wakes.f 40 = some true by kernel_rfl)
  have hc : galleylaw03_copied.f l0 = some l0 := by
    unfold galleylaw03_copied.f
    simp
    omega
  have hF := exact_f (k + 2) l0 hu (by omega) (by omega)
  have hG := from_f (k + 2) l0 hu (by omega) (by omega)
  have hsame : ∀ q, l0.length + 1 ≤ q → galleyref03_SameUnits.f q l0 l0 = some true := fun q hq => by rw [same_f q l0 l0 (by omega) (by omega), decide_eq_true rfl]
  unfold galleylaw03_UnitsOnly.f
  rw [hw, Option.bind_some, if_pos rfl, hc, Option.bind_some, hF, Option.bind_some, Option.bind_some, hG, Option.bind_some]
  by_cases e : (backP (l0.length + 1) l0 0 []).2.2 = 0
  · obtain ⟨c, e1, e2, e3, e4⟩ := back_ok _ l0 0 [] (by omega) hu e
    rw [List.nil_append] at e1
    have hT : units_ToExact.f (k + 2) c = some l0 := (toExact_f (k + 2) c e2 (by omega) (by omega)).trans (congrArg some e3)
    rw [e1, if_pos rfl, Option.bind_some, if_pos (by simp; omega), List.nil_append, hT, Option.bind_some, hsame _ (by omega), Option.bind_some]
    rw [galleylaw03_UnitsOnly.j0, if_neg (by decide)]
    by_cases g : (fromP (l0.length + 1) l0 0 []).2.2 = 0
    · obtain ⟨d, d1, d2, d3, d4, d5, d6⟩ := from_ok _ l0 0 [] (by omega) hu g
      rw [List.nil_append] at d1 d2
      have hcd : c = d := by
        have := e1.symm.trans d2
        exact (Prod.mk.inj this).1
      subst hcd
      have hT2 : units_To.f (k + 1) c = some l0 := (to_f (k + 1) c e2 (by omega) (by omega)).trans (congrArg some d4)
      rw [d1, if_pos rfl, Option.bind_some, if_pos (by simp; omega), List.nil_append, hT2, Option.bind_some, hsame _ (by omega), Option.bind_some, if_pos rfl, if_pos rfl, bne_self_eq_false, galleylaw03_UnitsOnly.j1, if_neg (by decide), if_pos rfl, if_pos rfl]
    · obtain ⟨g1, g2, g3⟩ := from_fail _ l0 0 [] g
      rw [if_neg g, galleylaw03_UnitsOnly.j1, if_neg (by decide), if_pos rfl, if_neg g, if_pos (by rw [g1]; rfl), if_pos (by simpa using g2), if_pos (by simpa using g3)]
  · obtain ⟨f1, f2, f3⟩ := back_fail _ l0 0 [] e
    rw [if_neg e, galleylaw03_UnitsOnly.j0, if_neg (by decide)]
    by_cases g : (fromP (l0.length + 1) l0 0 []).2.2 = 0
    · obtain ⟨d, d1, d2, d3, d4, d5, d6⟩ := from_ok _ l0 0 [] (by omega) hu g
      rw [d2] at e
      exact absurd rfl e
    · obtain ⟨g1, g2, g3⟩ := from_fail _ l0 0 [] g
      have ho := fail_order _ l0 0 [] g e
      have f2' : (0 : Int) ≤ (backP (l0.length + 1) l0 0 []).2.1 := by simpa using f2
      have f3' : (backP (l0.length + 1) l0 0 []).2.1 < (l0.length : Int) := by simpa using f3
      rw [if_neg g, galleylaw03_UnitsOnly.j1, if_neg (by decide), if_neg e, if_pos (by rw [f1]; rfl), if_neg (by omega), if_neg (by omega), if_neg g, if_pos (by rw [g1]; rfl), if_pos (by simpa using g2), if_pos (by simpa using g3), decide_eq_true ho]
end Go.Proofs.YtcdehlnkilcgaaaDoor.Pure
