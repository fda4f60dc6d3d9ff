/- Plain: Steps, To and ToExact of the reference; To and ToExact of the program. -/
import Derived.Test.YtcdehlnkilcgaaaDoorWideBackM4
import Derived.Test.YtcdehlnkilcgaaaDoorWideBackQ0
import Derived.Test.YtcdehlnkilcgaaaDoorWideBackQb
namespace Go.Proofs.YtcdehlnkilcgaaaDoor.Pure
open Go.RowKit Go.Proofs.YtcdehlnkilcgaaaDoor.Q Go.Proofs.YtcdehlnkilcgaaaDoorW.PrintWords
theorem rd_mid (a b : List Int) (x : Int) : rd (a ++ x :: b) ((a.length : Nat) : Int) = x := by
  simp [rd, List.getD_eq_getElem?_getD]
theorem sufs_fuel : ∀ (f g : Nat) (m : List Int), m.length ≤ f → m.length ≤ g → sufs f m = sufs g m := by
  intro f
  induction f with
  | zero =>
    intro g m h1 h2; have : m = [] := List.eq_nil_of_length_eq_zero (by omega); subst this
    cases g <;> simp [sufs]
  | succ f ihf =>
    intro g m h1 h2
    cases g with
    | zero =>
      have : m = [] := List.eq_nil_of_length_eq_zero (by omega); subst this
      simp [sufs]
    | succ g =>
      rw [sufs, sufs]; by_cases hm : m = []; · rw [if_pos hm, if_pos hm]
      · rw [if_neg hm, if_neg hm]; have := wid_pos m; have := List.length_pos_iff.2 hm; rw [ihf g _ (by simp; omega) (by simp; omega)]
theorem sufs_len (f : Nat) (m : List Int) : (sufs f m).length ≤ m.length := by
  induction f generalizing m with
  | zero => simp [sufs]
  | succ f ih =>
    rw [sufs]; split
    · simp
    · (rename_i h); have := ih (m.drop (wid m)); have := wid_pos m; have := List.length_pos_iff.2 h; (simp at *); omega
/-- Every rest is not empty, and of the text's bytes. -/
theorem sufs_mem (f : Nat) (m : List Int) (hb : bytes m) : ∀ s ∈ sufs f m, s ≠ [] ∧ bytes s := by
  induction f generalizing m with
  | zero => simp [sufs]
  | succ f ih =>
    rw [sufs]; split
    · simp
    · (rename_i h); intro s hs; rcases List.mem_cons.1 hs with rfl | hs
      · exact ⟨h, hb⟩
      · exact ih _ (fun x hx => hb x (List.mem_of_mem_drop hx)) s hs
theorem run_bd (m : List Int) (hb : bytes m) : 0 ≤ run m ∧ run m ≤ 1114111 := by
  have h0 := getD_bytes m hb 0; have h1 := getD_bytes m hb 1; have h2 := getD_bytes m hb 2; have h3 := getD_bytes m hb 3; unfold run lng; generalize m.getD 0 (-1) = x at *; generalize m.getD 1 (-1) = y at *; generalize m.getD 2 (-1) = z at *; generalize m.getD 3 (-1) = w at *; obtain ⟨n, hn⟩ : ∃ n, n = lng4 x y z w := ⟨_, rfl⟩; rw [← hn]; unfold lng4 in3 in4 at hn; repeat' split at hn
  all_goals
    subst hn; (simp [val4]); try omega
def unitsOf (r : Int) : List Int := if 65535 < r ∧ r ≤ 1114111 then [55296 + (r - 65536) / 1024, 56320 + (r - 65536) % 1024] else [r]
def seen (m : List Int) : List Int := unitsOf (run m)
def exact (m : List Int) : List Int := if lng m = 0 then [56320 + m.getD 0 (-1)] else unitsOf (run m)
theorem units_len (r : Int) : 1 ≤ (unitsOf r).length ∧ (unitsOf r).length ≤ 2 := by
  unfold unitsOf; split <;> simp
theorem flat_len {g : List Int → List Int} (hg : ∀ m, (g m).length ≤ 2) (f : Nat) (m : List Int) : ((sufs f m).flatMap g).length ≤ 2 * m.length := by
  have h := sufs_len f m
  have : ∀ L : List (List Int), (L.flatMap g).length ≤ 2 * L.length := by
    intro L
    induction L with
    | nil => simp
    | cons x L ih =>
      have := hg x; simp only [List.flatMap_cons, List.length_append, List.length_cons]; omega
  have := this (sufs f m); omega
theorem seen_len (m : List Int) : (seen m).length ≤ 2 := (units_len _).2
theorem exact_len (m : List Int) : (exact m).length ≤ 2 := by
  unfold exact; split
  · simp
  · exact (units_len _).2
theorem runes_sufs (l : List Int) (hb : bytes l) : ∀ (b i : Nat), i ≤ l.length → runesAt (strOfNums l) b i = (sufs b (l.drop i)).map run := by
  intro b
  induction b with
  | zero => intro i _; simp [runesAt, sufs]
  | succ b ih =>
    intro i hi; rw [runesAt, sufs, strOfNums_size]; by_cases h : i < l.length; · rw [if_pos h, if_neg (by simp; omega), decode_str l hb i h]; have hr := run_bd (l.drop i) (fun x hx => hb x (List.mem_of_mem_drop hx)); have hw := wid_le (l.drop i) (by simp; omega); simp only [List.length_drop] at hw; simp only [List.map_cons, List.drop_drop]; rw [ih (i + wid (l.drop i)) (by omega), Int.toNat_of_nonneg hr.1]
    · rw [if_neg h, if_pos (by simp; omega)]; rfl
theorem to_l0 : ∀ (R : List Int) (k : Nat) (pre out : List Int), (∀ r ∈ R, 0 ≤ r ∧ r ≤ 1114111) → R.length + 2 ≤ k → out.length + 2 * R.length ≤ 33554432 → pre.length + R.length ≤ 16777216 →
    units_To.l0 k out (pre ++ R) (((pre ++ R).length : Nat) : Int) ((pre.length : Nat) : Int) = some (out ++ R.flatMap unitsOf) := by
  intro R
  induction R with
  | nil =>
    intro k pre out _ hk ho hp; obtain ⟨k, rfl⟩ : ∃ m, k = m + 1 := ⟨k - 1, by omega⟩; rw [units_To.l0, if_neg (by simp)]
    simp
  | cons r R ih =>
    intro k pre out hL hk ho hp; obtain ⟨k, rfl⟩ : ∃ m, k = m + 1 := ⟨k - 1, by simp at hk; omega⟩; simp only [List.length_cons] at hk ho hp; have hr := hL r (by simp); rw [units_To.l0, if_pos (by simp; omega), if_pos (by omega), if_pos (by simp; omega), rd_mid, split_f k (by omega), w64 (by omega) (by omega)]; simp only [Option.bind_some]
    have next : ∀ u : List Int, u.length ≤ 2 → units_To.l0 k (out ++ u) (pre ++ r :: R) (((pre ++ r :: R).length : Nat) : Int) (((pre.length : Nat) : Int) + 1) = some ((out ++ u) ++ R.flatMap unitsOf) := by
      intro u hu; have := ih k (pre ++ [r]) (out ++ u) (fun s hs => hL s (by simp [hs])) (by omega) (by simp; omega) (by simp; omega); rw [List.append_assoc, show (((pre ++ [r]).length : Nat) : Int) = ((pre.length : Nat) : Int) + 1 by simp] at this; exact this
    unfold splitP; by_cases h : 65535 < r ∧ r ≤ 1114111; · rw [if_pos h]; simp only [if_true]; rw [if_pos (by simp; omega), next _ (by simp)]; simp [unitsOf, h]
    · rw [if_neg h]; simp only [Bool.false_eq_true, if_false]; rw [if_pos (by omega), w16 (by omega) (by omega), next _ (by simp)]; simp [unitsOf, h]
theorem to_f (k : Nat) (l : List Int) (hb : bytes l) (hn : l.length ≤ 8388608) (hk : l.length + 10 ≤ k) : units_To.f k l = some ((sufs (l.length + 1) l).flatMap seen) := by
  unfold units_To.f step_Runes.f runesOf; rw [if_pos (by omega), runes_sufs l hb _ 0 (by omega), List.drop_zero, sufs_fuel l.length (l.length + 1) l (by omega) (by omega)]; simp only [Option.bind_some]; have h := sufs_len (l.length + 1) l
  have := to_l0 ((sufs (l.length + 1) l).map run) k [] [] (by
    intro r hr; obtain ⟨s, hs, rfl⟩ := List.mem_map.1 hr
    exact run_bd s (sufs_mem _ l hb s hs).2) (by simp; omega) (by simp; omega) (by simp; omega)
  simp only [List.nil_append, List.length_nil] at this; rw [show ((0 : Nat) : Int) = 0 from rfl] at this; rw [this]; (simp [List.flatMap_map]); rfl
end Go.Proofs.YtcdehlnkilcgaaaDoor.Pure
