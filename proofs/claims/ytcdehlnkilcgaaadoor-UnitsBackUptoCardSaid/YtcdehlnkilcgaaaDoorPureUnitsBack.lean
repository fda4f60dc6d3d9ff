/- The law UnitsBack, over numbers alone. -/
import Derived.Test.YtcdehlnkilcgaaaDoorM12
namespace Go.Proofs.YtcdehlnkilcgaaaDoor.Pure
open Go.RowKit Go.Proofs.YtcdehlnkilcgaaaDoor.Q Go.Proofs.YtcdehlnkilcgaaaDoorW.PrintWords
theorem tells_len (g : List Int → List Int) (hg : ∀ m, (g m).length ≤ 2) (m : List Int) : (tells g m).length ≤ 2 * m.length := flat_len hg _ m
theorem unit_u16 (r : Int) (hs : scalar r) : u16s (unitsOf r) := by
  unfold scalar at hs
  unfold u16s unitsOf
  split
  all_goals
    intro x hx
    simp only [List.mem_cons, List.not_mem_nil, or_false] at hx
    omega
theorem tells_u16 (g : List Int → List Int) (hg : ∀ m, bytes m → m ≠ [] → u16s (g m)) (m : List Int) (hb : bytes m) : u16s (tells g m) := by
  intro x hx
  unfold tells at hx
  obtain ⟨s, hs, hx⟩ := List.mem_flatMap.1 hx
  obtain ⟨h1, h2⟩ := sufs_mem _ m hb s hs
  exact hg s h2 h1 x hx
theorem seen_u16 (m : List Int) : u16s (seen m) := unit_u16 _ (run_scalar m)
theorem exact_u16 (m : List Int) (hb : bytes m) (hm : m ≠ []) : u16s (exact m) := by
  by_cases h : lng m = 0
  · rw [exact_bad m h]
    have := head_bad m hb hm h
    intro x hx
    simp only [List.mem_cons, List.not_mem_nil, or_false] at hx
    omega
  · rw [exact_good m h]
    exact unit_u16 _ (run_scalar m)
theorem same_len : ∀ (f : Nat) (m : List Int), m.length ≤ f → bytes m → (tells seen m).length = (tells exact m).length := by
  intro f
  induction f with
  | zero =>
    intro m hf _
    have : m = [] := List.eq_nil_of_length_eq_zero (by omega)
    subst this
    rw [tells_nil, tells_nil]
  | succ f ih =>
    intro m hf hb
    by_cases hm : m = []
    · subst hm
      rw [tells_nil, tells_nil]
    · have hw := wid_pos m
      have hl := List.length_pos_iff.2 hm
      rw [tells_step seen m hm, tells_step exact m hm, List.length_append, List.length_append, (exact_seen m hb hm).1, ih _ (by simp; omega) (fun x hx => hb x (List.mem_of_mem_drop hx))]
theorem copied_f (u : List Int) (h : u.length ≤ 16777216) : galleylaw03_copied.f u = some u := by
  unfold galleylaw03_copied.f
  simp
  omega
theorem UnitsBack (l0 : List Int) (h0 : l0.length ≤ 1048576) (hb : ∀ x ∈ l0, 0 ≤ x ∧ x ≤ 255) : ∃ k, galleylaw03_UnitsBack.f k l0 = some true := by
  refine ⟨20 * l0.length + 200, ?_⟩
  obtain ⟨k, hk⟩ : ∃ k, 20 * l0.length + 200 = k + 1 := ⟨20 * l0.length + 199, by omega⟩
  rw [hk]
  have hw : galleylaw03_wakes.f (k + 1) = some true := at_rounds galleylaw03_wakes.mono (by omega) (show galleylaw03_wakes.f 40 = some true by kernel_rfl)
  have hx : units_To.f (k + 1) l0 = some (tells seen l0) := to_f (k + 1) l0 hb (by omega) (by omega)
  have hy : units_ToExact.f (k + 1) l0 = some (tells exact l0) := toExact_f (k + 1) l0 hb (by omega) (by omega)
  have lx := tells_len seen seen_len l0
  have ly := tells_len exact exact_len l0
  have ux := tells_u16 seen (fun m _ _ => seen_u16 m) l0 hb
  have uy := tells_u16 exact exact_u16 l0 hb
  have hF : units_FromExact.f (k + 1) (tells exact l0) = some (l0, 0, 0) := by
    rw [exact_f (k + 1) _ uy (by omega) (by omega), back_exact _ l0 0 [] hb (by omega), List.nil_append]
  have hG : units_From.f (k + 1) (tells seen l0) = some (tells (fun s => encP (run s)) l0, 0, 0) := by
    rw [from_f (k + 1) _ ux (by omega) (by omega), from_seen _ l0 0 [] (by omega), List.nil_append]
  unfold galleylaw03_UnitsBack.f
  rw [hw, Option.bind_some, if_pos rfl, Option.bind_some, if_pos (by simp; omega), List.nil_append, hx, Option.bind_some, Option.bind_some, if_pos (by simp; omega), List.nil_append, hy, Option.bind_some, copied_f (tells exact l0) (by omega), Option.bind_some, hF, Option.bind_some, copied_f (tells seen l0) (by omega), Option.bind_some, hG, Option.bind_some, if_pos rfl, if_pos rfl, if_pos rfl]
  have hlen : (((tells seen l0).length : Int) != ((tells exact l0).length : Int)) = false := by
    rw [bne_eq_false_iff_eq, same_len _ l0 (Nat.le_refl _) hb]
  rw [hlen, galleylaw03_UnitsBack.j0, if_neg (by decide), steps_f k l0 hb h0 (by omega), Option.bind_some]
  have hv : ((step_Valid.f ([] ++ l0)).bind fun t => (some (((strOfNums (tells (fun s => encP (run s)) l0)).toList == (strOfNums l0).toList) == t) : Option Bool)) = some true := by
    rw [List.nil_append]
    unfold step_Valid.f
    rw [if_pos (by omega), Option.bind_some, valid_text l0 hb, beq_self_eq_true]
  have := back_l0 l0 (tells (fun s => encP (run s)) l0) h0 hv (l0.length + 1) k l0 [] [] [] [] 0 hb (by omega) rfl (by simp) (by simp) (by omega) (by simp; omega) (by simp; omega) (by simp; omega)
  exact this
end Go.Proofs.YtcdehlnkilcgaaaDoor.Pure
