/- Plain: Steps, To and ToExact of the reference; To and ToExact of the program. -/
import Derived.Test.YtcdehlnkilcgaaaDoorWideAnswersM4
import Derived.Test.YtcdehlnkilcgaaaDoorWideAnswersQi
import Derived.Test.YtcdehlnkilcgaaaDoorWideAnswersQb
namespace Go.Proofs.YtcdehlnkilcgaaaDoor.Pure
open Go.RowKit Go.Proofs.YtcdehlnkilcgaaaDoor.Q Go.Proofs.YtcdehlnkilcgaaaDoorW.PrintWords
theorem posF_ne (f : Nat) (m : List Int) (p : Nat) : 1 ≤ (posF f m p).length := by
  cases f with
  | zero => simp [posF]
  | succ f =>
    rw [posF]; split <;> simp
theorem rd_mid (a b : List Int) (x : Int) : rd (a ++ x :: b) ((a.length : Nat) : Int) = x := by
  simp [rd, List.getD_eq_getElem?_getD]
theorem steps_l0 (l : List Int) (hb : bytes l) (hn : l.length ≤ 1500000) : ∀ (f k p : Nat) (pre : List Int) (out : List S61), l.length - p ≤ f → p ≤ l.length → f + 9 ≤ k → out.length + f ≤ 2097152 → pre.length + f ≤ 2097152 →
    galleyref02_Steps.l0 k l out (pre ++ posF f (l.drop p) p) ((pre.length : Nat) : Int) = some (out ++ (sufs f (l.drop p)).map stp) := by
  intro f
  induction f with
  | zero =>
    intro k p pre out hf hp hk ho hq; obtain ⟨k, rfl⟩ : ∃ m, k = m + 1 := ⟨k - 1, by omega⟩; rw [galleyref02_Steps.l0, w64 (by omega) (by omega), if_neg (by simp [posF])]
    simp [sufs]
  | succ f ih =>
    intro k p pre out hf hp hk ho hq; obtain ⟨k, rfl⟩ : ∃ m, k = m + 1 := ⟨k - 1, by omega⟩; rw [galleyref02_Steps.l0, w64 (by omega) (by omega), posF, sufs]; by_cases hz : l.drop p = []; · rw [if_pos hz, if_pos hz, if_neg (by simp)]; simp
    · rw [if_neg hz, if_neg hz]; have h1 := posF_ne f ((l.drop p).drop (wid (l.drop p))) (p + wid (l.drop p)); have hw1 := wid_pos (l.drop p); have hw2 := wid_le (l.drop p) hz; have hp' : 0 < (l.drop p).length := List.length_pos_iff.2 hz; simp only [List.length_drop] at hw2 hp'; rw [if_pos (by simp only [List.length_append, List.length_cons]; omega), if_pos (by omega), if_pos (by simp only [List.length_append, List.length_cons]; omega), rd_mid, of_f k (by omega) l hb p (by omega) hn]; simp only [Option.bind_some]; rw [if_pos (by omega), show ((pre.length : Nat) : Int) + 1 = (((pre ++ [(p : Int)]).length : Nat) : Int) by simp, List.drop_drop]; have := ih k (p + wid (l.drop p)) (pre ++ [(p : Int)]) (out ++ [stp (l.drop p)]) (by omega) (by omega) (by omega) (by simp; omega) (by simp; omega); rw [List.append_assoc] at this; refine this.trans ?_; simp
theorem steps_f (k : Nat) (l : List Int) (hb : bytes l) (hn : l.length ≤ 1500000) (hk : l.length + 10 ≤ k) : galleyref02_Steps.f k l = some ((sufs (l.length + 1) l).map stp) := by
  unfold galleyref02_Steps.f; rw [edges_f k l hb hn (by omega)]; have := steps_l0 l hb hn (l.length + 1) k 0 [] [] (by omega) (by omega) (by omega) (by simp; omega) (by simp; omega); simpa using this
theorem sufs_fuel : ∀ (f g : Nat) (m : List Int), m.length ≤ f → m.length ≤ g → sufs f m = sufs g m := by
  intro f
  induction f with
  | zero =>
    intro g m h1 h2; have : m = [] := List.eq_nil_of_length_eq_zero (by omega); subst this
    cases g <;> simp [sufs]
  | succ f ihf =>
    intro g m h1 h2
    cases g with
    | zero =>
      have : m = [] := List.eq_nil_of_length_eq_zero (by omega); subst this
      simp [sufs]
    | succ g =>
      rw [sufs, sufs]; by_cases hm : m = []; · rw [if_pos hm, if_pos hm]
      · rw [if_neg hm, if_neg hm]; have := wid_pos m; have := List.length_pos_iff.2 hm; rw [ihf g _ (by simp; omega) (by simp; omega)]
theorem sufs_len (f : Nat) (m : List Int) : (sufs f m).length ≤ m.length := by
  induction f generalizing m with
  | zero => simp [sufs]
  | succ f ih =>
    rw [sufs]; split
    · simp
    · (rename_i h); have := ih (m.drop (wid m)); have := wid_pos m; have := List.length_pos_iff.2 h; (simp at *); omega
/-- Every rest is not empty, and of the text's bytes. -/
theorem sufs_mem (f : Nat) (m : List Int) (hb : bytes m) : ∀ s ∈ sufs f m, s ≠ [] ∧ bytes s := by
  induction f generalizing m with
  | zero => simp [sufs]
  | succ f ih =>
    rw [sufs]; split
    · simp
    · (rename_i h); intro s hs; rcases List.mem_cons.1 hs with rfl | hs
      · exact ⟨h, hb⟩
      · exact ih _ (fun x hx => hb x (List.mem_of_mem_drop hx)) s hs
theorem run_bd (m : List Int) (hb : bytes m) : 0 ≤ run m ∧ run m ≤ 1114111 := by
  have h0 := getD_bytes m hb 0; have h1 := getD_bytes m hb 1; have h2 := getD_bytes m hb 2; have h3 := getD_bytes m hb 3; unfold run lng; generalize m.getD 0 (-1) = x at *; generalize m.getD 1 (-1) = y at *; generalize m.getD 2 (-1) = z at *; generalize m.getD 3 (-1) = w at *; obtain ⟨n, hn⟩ : ∃ n, n = lng4 x y z w := ⟨_, rfl⟩; rw [← hn]; unfold lng4 in3 in4 at hn; repeat' split at hn
  all_goals
    subst hn; (simp [val4]); try omega
def unitsOf (r : Int) : List Int := if 65535 < r ∧ r ≤ 1114111 then [55296 + (r - 65536) / 1024, 56320 + (r - 65536) % 1024] else [r]
def seen (m : List Int) : List Int := unitsOf (run m)
def exact (m : List Int) : List Int := if lng m = 0 then [56320 + m.getD 0 (-1)] else unitsOf (run m)
theorem units_len (r : Int) : 1 ≤ (unitsOf r).length ∧ (unitsOf r).length ≤ 2 := by
  unfold unitsOf; split <;> simp
theorem flat_len {g : List Int → List Int} (hg : ∀ m, (g m).length ≤ 2) (f : Nat) (m : List Int) : ((sufs f m).flatMap g).length ≤ 2 * m.length := by
  have h := sufs_len f m
  have : ∀ L : List (List Int), (L.flatMap g).length ≤ 2 * L.length := by
    intro L
    induction L with
    | nil => simp
    | cons x L ih =>
      have := hg x; simp only [List.flatMap_cons, List.length_append, List.length_cons]; omega
  have := this (sufs f m); omega
theorem seen_len (m : List Int) : (seen m).length ≤ 2 := (units_len _).2
theorem exact_len (m : List Int) : (exact m).length ≤ 2 := by
  unfold exact; split
  · simp
  · exact (units_len _).2
theorem add_f (k : Nat) (hk : 1 ≤ k) (out : List Int) (ho : out.length ≤ 4194304) (r wd : Int) (h0 : 0 ≤ r) (h1 : r ≤ 1114111) (whole : Bool) (unit : Int) :
    galleyref03_add.f k out r wd whole unit = some (out ++ if whole = true then unitsOf r else [unit]) := by
  unfold galleyref03_add.f; rw [ref_split_f k hk]; unfold splitP unitsOf
  cases whole with
  | false =>
    rw [if_neg (by decide), if_pos (by omega), if_neg (by decide)]
  | true =>
    rw [if_pos rfl, if_pos rfl]; simp only [Option.bind_some]; by_cases h : 65535 < r ∧ r ≤ 1114111; · rw [if_pos h, if_pos h]; simp only [if_true]; rw [if_pos (by omega), if_pos (by simp; omega)]; simp
    · rw [if_neg h, if_neg h]; simp only [Bool.false_eq_true, if_false]; rw [if_pos (by omega), w16 (by omega) (by omega)]
theorem rdT (a b : List S61) (x : S61) : rd_T61 (a ++ x :: b) ((a.length : Nat) : Int) = x := by
  simp [rd_T61, List.getD_eq_getElem?_getD]
theorem refTo_l0 : ∀ (L : List (List Int)) (k : Nat) (pre : List S61) (out : List Int), (∀ s ∈ L, bytes s) → L.length + 2 ≤ k → out.length + 2 * L.length ≤ 4194304 → pre.length + L.length ≤ 2097152 →
    galleyref03_To.l0 k out (pre ++ L.map stp) ((pre.length : Nat) : Int) = some (out ++ L.flatMap seen) := by
  intro L
  induction L with
  | nil =>
    intro k pre out _ hk ho hp; obtain ⟨k, rfl⟩ : ∃ m, k = m + 1 := ⟨k - 1, by omega⟩; rw [galleyref03_To.l0, if_neg (by simp)]
    simp
  | cons m L ih =>
    intro k pre out hL hk ho hp; obtain ⟨k, rfl⟩ : ∃ m, k = m + 1 := ⟨k - 1, by simp at hk; omega⟩; simp only [List.length_cons] at hk ho hp; have hr := run_bd m (hL m (by simp)); rw [galleyref03_To.l0, if_pos (by simp; omega), if_pos (by omega), List.map_cons, rdT, add_f k (by omega) out (by omega) _ _ (by exact hr.1) (by exact hr.2), w64 (by omega) (by omega)]; simp only [Option.bind_some]
    have e : (if (stp m).f2 = true then unitsOf (stp m).f0 else [65533]) = seen m := by
      unfold seen stp run; by_cases h : lng m = 0; · simp [h, val4, unitsOf]
      · simp [h]
    rw [e, show ((pre.length : Nat) : Int) + 1 = (((pre ++ [stp m]).length : Nat) : Int) by simp]; have hs := seen_len m; have := ih k (pre ++ [stp m]) (out ++ seen m) (fun s hs => hL s (by simp [hs])) (by omega) (by simp; omega) (by simp; omega); rw [List.append_assoc] at this; refine this.trans ?_; simp
theorem ref_to_f (k : Nat) (l : List Int) (hb : bytes l) (hn : l.length ≤ 1500000) (hk : l.length + 10 ≤ k) : galleyref03_To.f k l = some ((sufs (l.length + 1) l).flatMap seen) := by
  unfold galleyref03_To.f; rw [steps_f k l hb hn hk]; have h := sufs_len (l.length + 1) l; have := refTo_l0 (sufs (l.length + 1) l) k [] [] (fun s hs => (sufs_mem _ l hb s hs).2) (by omega) (by simp; omega) (by simp; omega); simpa using this
theorem runes_sufs (l : List Int) (hb : bytes l) : ∀ (b i : Nat), i ≤ l.length → runesAt (strOfNums l) b i = (sufs b (l.drop i)).map run := by
  intro b
  induction b with
  | zero => intro i _; simp [runesAt, sufs]
  | succ b ih =>
    intro i hi; rw [runesAt, sufs, strOfNums_size]; by_cases h : i < l.length; · rw [if_pos h, if_neg (by simp; omega), decode_str l hb i h]; have hr := run_bd (l.drop i) (fun x hx => hb x (List.mem_of_mem_drop hx)); have hw := wid_le (l.drop i) (by simp; omega); simp only [List.length_drop] at hw; simp only [List.map_cons, List.drop_drop]; rw [ih (i + wid (l.drop i)) (by omega), Int.toNat_of_nonneg hr.1]
    · rw [if_neg h, if_pos (by simp; omega)]; rfl
theorem to_l0 : ∀ (R : List Int) (k : Nat) (pre out : List Int), (∀ r ∈ R, 0 ≤ r ∧ r ≤ 1114111) → R.length + 2 ≤ k → out.length + 2 * R.length ≤ 33554432 → pre.length + R.length ≤ 16777216 →
    units_To.l0 k out (pre ++ R) (((pre ++ R).length : Nat) : Int) ((pre.length : Nat) : Int) = some (out ++ R.flatMap unitsOf) := by
  intro R
  induction R with
  | nil =>
    intro k pre out _ hk ho hp; obtain ⟨k, rfl⟩ : ∃ m, k = m + 1 := ⟨k - 1, by omega⟩; rw [units_To.l0, if_neg (by simp)]
    simp
  | cons r R ih =>
    intro k pre out hL hk ho hp; obtain ⟨k, rfl⟩ : ∃ m, k = m + 1 := ⟨k - 1, by simp at hk; omega⟩; simp only [List.length_cons] at hk ho hp; have hr := hL r (by simp); rw [units_To.l0, if_pos (by simp; omega), if_pos (by omega), if_pos (by simp; omega), rd_mid, split_f k (by omega), w64 (by omega) (by omega)]; simp only [Option.bind_some]
    have next : ∀ u : List Int, u.length ≤ 2 → units_To.l0 k (out ++ u) (pre ++ r :: R) (((pre ++ r :: R).length : Nat) : Int) (((pre.length : Nat) : Int) + 1) = some ((out ++ u) ++ R.flatMap unitsOf) := by
      intro u hu; have := ih k (pre ++ [r]) (out ++ u) (fun s hs => hL s (by simp [hs])) (by omega) (by simp; omega) (by simp; omega); rw [List.append_assoc, show (((pre ++ [r]).length : Nat) : Int) = ((pre.length : Nat) : Int) + 1 by simp] at this; exact this
    unfold splitP; by_cases h : 65535 < r ∧ r ≤ 1114111; · rw [if_pos h]; simp only [if_true]; rw [if_pos (by simp; omega), next _ (by simp)]; simp [unitsOf, h]
    · rw [if_neg h]; simp only [Bool.false_eq_true, if_false]; rw [if_pos (by omega), w16 (by omega) (by omega), next _ (by simp)]; simp [unitsOf, h]
theorem to_f (k : Nat) (l : List Int) (hb : bytes l) (hn : l.length ≤ 8388608) (hk : l.length + 10 ≤ k) : units_To.f k l = some ((sufs (l.length + 1) l).flatMap seen) := by
  unfold units_To.f step_Runes.f runesOf; rw [if_pos (by omega), runes_sufs l hb _ 0 (by omega), List.drop_zero, sufs_fuel l.length (l.length + 1) l (by omega) (by omega)]; simp only [Option.bind_some]; have h := sufs_len (l.length + 1) l
  have := to_l0 ((sufs (l.length + 1) l).map run) k [] [] (by
    intro r hr; obtain ⟨s, hs, rfl⟩ := List.mem_map.1 hr
    exact run_bd s (sufs_mem _ l hb s hs).2) (by simp; omega) (by simp; omega) (by simp; omega)
  simp only [List.nil_append, List.length_nil] at this; rw [show ((0 : Nat) : Int) = 0 from rfl] at this; rw [this]; (simp [List.flatMap_map]); rfl
end Go.Proofs.YtcdehlnkilcgaaaDoor.Pure
