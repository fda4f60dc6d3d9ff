/- Plain: encodings and runs, there and back. -/
import Derived.Test.YtcdehlnkilcgaaaDoorWideBackM9
namespace Go.Proofs.YtcdehlnkilcgaaaDoor.Pure
open Go.RowKit Go.Proofs.YtcdehlnkilcgaaaDoor.Q Go.Proofs.YtcdehlnkilcgaaaDoorW.PrintWords
def scalar (r : Int) : Prop := 0 ≤ r ∧ r ≤ 1114111 ∧ ¬ (55296 ≤ r ∧ r ≤ 57343)
theorem take1 (m : List Int) (h : 1 ≤ m.length) : m.take 1 = [m.getD 0 (-1)] := by
  match m, h with
  | _ :: _, _ => rfl
theorem take2 (m : List Int) (h : 2 ≤ m.length) : m.take 2 = [m.getD 0 (-1), m.getD 1 (-1)] := by
  match m, h with
  | _ :: _ :: _, _ => rfl
theorem take3 (m : List Int) (h : 3 ≤ m.length) : m.take 3 = [m.getD 0 (-1), m.getD 1 (-1), m.getD 2 (-1)] := by
  match m, h with
  | _ :: _ :: _ :: _, _ => rfl
theorem take4 (m : List Int) (h : 4 ≤ m.length) : m.take 4 = [m.getD 0 (-1), m.getD 1 (-1), m.getD 2 (-1), m.getD 3 (-1)] := by
  match m, h with
  | _ :: _ :: _ :: _ :: _, _ => rfl
/-- What is read as an encoding is the encoding of its rune. -/
theorem enc_run4 (x y z w : Int) (n : Nat) (h : lng4 x y z w = n) (h0 : n ≠ 0) : scalar (val4 n x y z w) ∧ encP (val4 n x y z w) = [x, y, z, w].take n := by
  unfold lng4 in3 in4 at h; repeat' split at h
  all_goals
    subst h; unfold scalar encP; simp only [val4, Nat.reduceEqDiff, if_true, if_false, List.take_succ_cons, List.take_zero]
  · (rename_i a); rw [if_pos (by omega)]; exact ⟨by omega, rfl⟩
  · (rename_i a); rw [if_neg (by omega), if_pos (by omega)]; refine ⟨by omega, ?_⟩; rw [show 192 + (x % 32 * 64 + y % 64) / 64 = x by omega, show 128 + (x % 32 * 64 + y % 64) % 64 = y by omega]
  · (rename_i a); rw [if_neg (by omega), if_neg (by omega), if_neg (by omega), if_pos (by omega)]; refine ⟨by omega, ?_⟩; rw [show 224 + ((x % 16 * 64 + y % 64) * 64 + z % 64) / 4096 = x by omega, show 128 + ((x % 16 * 64 + y % 64) * 64 + z % 64) / 64 % 64 = y by omega, show 128 + ((x % 16 * 64 + y % 64) * 64 + z % 64) % 64 = z by omega]
  · (rename_i a); rw [if_neg (by omega), if_neg (by omega), if_neg (by omega), if_neg (by omega)]; refine ⟨by omega, ?_⟩; rw [show 240 + (((x % 8 * 64 + y % 64) * 64 + z % 64) * 64 + w % 64) / 262144 = x by omega, show 128 + (((x % 8 * 64 + y % 64) * 64 + z % 64) * 64 + w % 64) / 4096 % 64 = y by omega, show 128 + (((x % 8 * 64 + y % 64) * 64 + z % 64) * 64 + w % 64) / 64 % 64 = z by omega, show 128 + (((x % 8 * 64 + y % 64) * 64 + z % 64) * 64 + w % 64) % 64 = w by omega]
  · exact absurd rfl h0
theorem enc_run (m : List Int) (h : lng m ≠ 0) : scalar (run m) ∧ encP (run m) = m.take (lng m) := by
  have h4 := lng_le4 m; have hl := lng_le m; have key := enc_run4 (m.getD 0 (-1)) (m.getD 1 (-1)) (m.getD 2 (-1)) (m.getD 3 (-1)) (lng m) rfl h; refine ⟨key.1, key.2.trans ?_⟩; (have : lng m = 1 ∨ lng m = 2 ∨ lng m = 3 ∨ lng m = 4 := by omega); rcases this with e | e | e | e
  · rw [e, take1 m (by omega)]; rfl
  · rw [e, take2 m (by omega)]; rfl
  · rw [e, take3 m (by omega)]; rfl
  · rw [e, take4 m (by omega)]; rfl
theorem run_bad (m : List Int) (h : lng m = 0) : run m = 65533 := by unfold run; rw [h]; rfl
theorem run_scalar (m : List Int) : scalar (run m) := by
  by_cases h : lng m = 0; · rw [run_bad m h]; unfold scalar; omega
  · exact (enc_run m h).1
theorem enc_bytes (r : Int) (h0 : 0 ≤ r) (h1 : r ≤ 1114111) : bytes (encP r) := by
  unfold bytes encP; repeat' split
  all_goals
    intro x hx; simp only [List.mem_cons, List.not_mem_nil, or_false] at hx; omega
/-- An encoding is read as its rune. -/
theorem run_enc (r : Int) (hs : scalar r) (t : List Int) : lng (encP r ++ t) = (encP r).length ∧ run (encP r ++ t) = r := by
  unfold scalar at hs
  have fin : ∀ (m : List Int) (n : Nat), lng4 (m.getD 0 (-1)) (m.getD 1 (-1)) (m.getD 2 (-1)) (m.getD 3 (-1)) = n → val4 n (m.getD 0 (-1)) (m.getD 1 (-1)) (m.getD 2 (-1)) (m.getD 3 (-1)) = r → lng m = n ∧ run m = r := by
    intro m n e1 e2; refine ⟨e1, ?_⟩; unfold run; rw [show lng m = n from e1]; exact e2
  unfold encP; by_cases a1 : r < 128
  · rw [if_pos a1]; refine fin _ _ ?_ ?_; · simp only [List.cons_append, List.getD_cons_zero, List.length_cons, List.length_nil]; unfold lng4; rw [if_pos (by omega)]
    · simp [val4]
  · rw [if_neg a1]; by_cases a2 : r < 2048
    · rw [if_pos a2]; refine fin _ _ ?_ ?_; · simp only [List.cons_append, List.getD_cons_zero, List.getD_cons_succ, List.length_cons, List.length_nil]; unfold lng4; rw [if_neg (by omega), if_pos (by omega)]
      · simp only [List.cons_append, List.getD_cons_zero, List.getD_cons_succ, List.length_cons, List.length_nil, val4]; rw [if_neg (by decide), if_pos (by decide)]; omega
    · rw [if_neg a2, if_neg hs.2.2]; by_cases a3 : r < 65536
      · rw [if_pos a3]; refine fin _ _ ?_ ?_; · simp only [List.cons_append, List.getD_cons_zero, List.getD_cons_succ, List.length_cons, List.length_nil]; unfold lng4 in3; rw [if_neg (by omega), if_neg (by omega), if_pos (by omega)]
        · simp only [List.cons_append, List.getD_cons_zero, List.getD_cons_succ, List.length_cons, List.length_nil, val4]; rw [if_neg (by decide), if_neg (by decide), if_pos (by decide)]; omega
      · rw [if_neg a3]; refine fin _ _ ?_ ?_; · simp only [List.cons_append, List.getD_cons_zero, List.getD_cons_succ, List.length_cons, List.length_nil]; unfold lng4 in3 in4; rw [if_neg (by omega), if_neg (by omega), if_neg (by omega), if_pos (by omega)]
        · simp only [List.cons_append, List.getD_cons_zero, List.getD_cons_succ, List.length_cons, List.length_nil, val4]; rw [if_neg (by decide), if_neg (by decide), if_neg (by decide), if_pos (by decide)]; omega
/-- A text that begins with an encoding is read so. -/
theorem whole_lng (p t : List Int) (h : wholeP p) : lng (p ++ t) = p.length := by
  obtain ⟨h0, h1⟩ := h; (have hn : lng p ≠ 0 := by omega); obtain ⟨hs, he⟩ := enc_run p hn; (have : encP (run p) = p := by rw [he, h1, List.take_length]); have := (run_enc (run p) hs t).1; rw [‹encP (run p) = p›] at this; exact this
theorem lng_whole (m : List Int) (h : lng m ≠ 0) : wholeP (m.take (lng m)) := by
  obtain ⟨hs, he⟩ := enc_run m h; have hl := lng_le m; have h2 := (run_enc (run m) hs []).1; rw [List.append_nil, he] at h2; refine ⟨by simp; omega, ?_⟩; exact h2
theorem head_bad (m : List Int) (hb : bytes m) (hm : m ≠ []) (h : lng m = 0) : 128 ≤ m.getD 0 (-1) ∧ m.getD 0 (-1) ≤ 255 := by
  have h0 := hb _ (List.getElem_mem (List.length_pos_iff.2 hm)); (have e : m.getD 0 (-1) = m[0]'(List.length_pos_iff.2 hm) := by simp [List.getD_eq_getElem?_getD, List.length_pos_iff.2 hm]); rw [e]; unfold lng lng4 at h; rw [e] at h; by_cases a : m[0]'(List.length_pos_iff.2 hm) ≤ 127; · rw [if_pos ⟨h0.1, a⟩] at h; omega
  · omega
def tells (g : List Int → List Int) (m : List Int) : List Int := (sufs (m.length + 1) m).flatMap g
theorem tells_nil (g : List Int → List Int) : tells g [] = [] := by simp [tells, sufs]
theorem tells_step (g : List Int → List Int) (m : List Int) (h : m ≠ []) : tells g m = g m ++ tells g (m.drop (wid m)) := by
  unfold tells; rw [sufs, if_neg h, List.flatMap_cons]; (congr 2); have := wid_pos m; exact sufs_fuel _ _ _ (by simp) (by omega)
theorem wid_bad (m : List Int) (h : lng m = 0) : wid m = 1 := by unfold wid; rw [if_pos h]
theorem wid_good (m : List Int) (h : lng m ≠ 0) : wid m = lng m := by unfold wid; rw [if_neg h]
theorem exact_bad (m : List Int) (h : lng m = 0) : exact m = [56320 + m.getD 0 (-1)] := by unfold exact; rw [if_pos h]
theorem exact_good (m : List Int) (h : lng m ≠ 0) : exact m = unitsOf (run m) := by unfold exact; rw [if_neg h]
/-- Ahead of units that are told of a scalar value: no half, its rune, its units. -/
theorem units_head (r : Int) (hs : scalar r) (t : List Int) : ¬ half (unitsOf r ++ t) ∧ rA (unitsOf r ++ t) = r ∧ (unitsOf r ++ t).drop (nA (unitsOf r ++ t)) = t ∧ ¬ one ((unitsOf r ++ t).getD 0 (-1)) := by
  unfold scalar at hs; by_cases h : 65535 < r ∧ r ≤ 1114111
  · (have e : unitsOf r = [55296 + (r - 65536) / 1024, 56320 + (r - 65536) % 1024] := by unfold unitsOf; rw [if_pos h]); rw [e]
    have ht : two ([55296 + (r - 65536) / 1024, 56320 + (r - 65536) % 1024] ++ t) := by
      unfold two hi lo; simp only [List.cons_append, List.getD_cons_zero, List.getD_cons_succ]; omega
    refine ⟨fun hh => hh.1 ht, ?_, ?_, ?_⟩; · unfold rA; rw [if_pos ht]; simp only [List.cons_append, List.getD_cons_zero, List.getD_cons_succ]; omega
    · unfold nA; rw [if_pos ht]; rfl
    · simp only [List.cons_append, List.getD_cons_zero]; unfold one; omega
  · (have e : unitsOf r = [r] := by unfold unitsOf; rw [if_neg h]); rw [e]
    have ht : ¬ two ([r] ++ t) := by
      unfold two hi; simp only [List.cons_append, List.getD_cons_zero]; omega
    refine ⟨?_, ?_, ?_, ?_⟩; · unfold half hi lo; simp only [List.cons_append, List.getD_cons_zero]; omega
    · unfold rA; rw [if_neg ht]; rfl
    · unfold nA; rw [if_neg ht]; rfl
    · simp only [List.cons_append, List.getD_cons_zero]; unfold one; omega
theorem head_one (m : List Int) (hb : bytes m) (hm : m ≠ []) : one ((tells exact m).getD 0 (-1)) ↔ lng m = 0 := by
  rw [tells_step exact m hm]; by_cases h : lng m = 0; · rw [exact_bad m h]; have := head_bad m hb hm h; simp only [List.cons_append, List.getD_cons_zero, h, iff_true]; unfold one; omega
  · rw [exact_good m h]; simp only [h, iff_false]; exact (units_head _ (run_scalar m) _).2.2.2
theorem unit_ne (r : Int) : unitsOf r ≠ [] := by
  have := (units_len r).1; intro e; rw [e] at this; simp at this
theorem exact_ne (m : List Int) : exact m ≠ [] := by
  unfold exact; split
  · simp
  · exact unit_ne _
theorem tells_ne (m : List Int) (hm : m ≠ []) : tells exact m ≠ [] := by
  rw [tells_step exact m hm]; simp [exact_ne]
theorem joins_no : ∀ (d : Nat) (m b : List Int), bytes m → (∀ n, 1 ≤ n → n ≤ m.length → ¬ wholeP (b ++ m.take n)) → joinsP d (tells exact m) b = false := by
  intro d
  induction d with
  | zero => intro m b _ _; rfl
  | succ d ih =>
    intro m b hb hw; by_cases hm : m = []; · subst hm; rw [tells_nil, joinsP, if_pos rfl]
    · rw [joinsP, if_neg (tells_ne m hm)]; by_cases h : lng m = 0; · rw [if_pos ((head_one m hb hm).2 h)]; have hl := List.length_pos_iff.2 hm; rw [tells_step exact m hm, exact_bad m h, wid_bad m h]; simp only [List.cons_append, List.getD_cons_zero, List.nil_append, List.drop_succ_cons, List.drop_zero]; rw [show 56320 + m.getD 0 (-1) - 56320 = m.getD 0 (-1) by omega]; have e := take1 m (by omega); rw [if_neg (by rw [← e]; exact hw 1 (by omega) (by omega))]; refine ih (m.drop 1) _ (fun x hx => hb x (List.mem_of_mem_drop hx)) fun n h1 h2 hh => ?_; simp only [List.length_drop] at h2; refine hw (n + 1) (by omega) (by omega) ?_; rw [← e, List.append_assoc] at hh; rw [show m.take (n + 1) = m.take 1 ++ (m.drop 1).take n by rw [Nat.add_comm n 1, List.take_add]]; exact hh
      · rw [if_neg (fun hh => h ((head_one m hb hm).1 hh))]
/-- Exact units are taken back to the bytes. -/
theorem back_exact : ∀ (f : Nat) (m : List Int) (i : Nat) (out : List Int), bytes m → (tells exact m).length ≤ f → backP f (tells exact m) i out = (out ++ m, 0, 0) := by
  intro f
  induction f with
  | zero =>
    intro m i out _ hf; by_cases hm : m = []; · subst hm; simp [backP]
    · exact absurd (List.eq_nil_of_length_eq_zero (by omega)) (tells_ne m hm)
  | succ f ih =>
    intro m i out hb hf; by_cases hm : m = []; · subst hm; rw [tells_nil, backP, if_pos rfl]; simp
    · have hbm : bytes (m.drop (wid m)) := fun x hx => hb x (List.mem_of_mem_drop hx); rw [backP, if_neg (tells_ne m hm)]; by_cases h : lng m = 0
      · have h1 := (head_one m hb hm).2 h
        have hj : joinsP 4 (tells exact m) [] = false := joins_no 4 m [] hb (by
          intro n h1 h2 hh; rw [List.nil_append] at hh; have := whole_lng (m.take n) (m.drop n) hh; rw [List.take_append_drop, h] at this; simp at this
          omega)
        rw [if_pos (one_half _ h1), if_pos h1, hj, if_neg (by decide)]; rw [tells_step exact m hm, exact_bad m h] at hf ⊢; simp only [List.cons_append, List.getD_cons_zero, List.nil_append, List.drop_succ_cons, List.drop_zero, List.length_cons] at hf ⊢; rw [show 56320 + m.getD 0 (-1) - 56320 = m.getD 0 (-1) by omega, ih _ _ _ hbm (by omega), wid_bad m h]; have hl := List.length_pos_iff.2 hm; have e := take1 m (by omega); rw [← e, List.append_assoc, List.take_append_drop]
      · have hu := units_head (run m) (run_scalar m) (tells exact (m.drop (wid m))); have hl := (units_len (run m)).1; rw [tells_step exact m hm, exact_good m h] at hf ⊢; simp only [List.length_append] at hf; rw [if_neg hu.1, hu.2.1, hu.2.2.1, ih _ _ _ hbm (by omega), (enc_run m h).2, wid_good m h, List.append_assoc, List.take_append_drop]
/-- Seen units are taken back to the runs' bytes. -/
theorem from_seen : ∀ (f : Nat) (m : List Int) (i : Nat) (out : List Int), (tells seen m).length ≤ f → fromP f (tells seen m) i out = (out ++ tells (fun s => encP (run s)) m, 0, 0) := by
  intro f
  induction f with
  | zero =>
    intro m i out hf; by_cases hm : m = []; · subst hm; simp [fromP, tells_nil]
    · rw [tells_step seen m hm] at hf; have := (units_len (run m)).1; unfold seen at hf; simp only [List.length_append] at hf
      omega
  | succ f ih =>
    intro m i out hf; by_cases hm : m = []; · subst hm; rw [tells_nil, fromP, if_pos rfl]; simp [tells_nil]
    · have hu := units_head (run m) (run_scalar m) (tells seen (m.drop (wid m))); have hl := (units_len (run m)).1; rw [tells_step seen m hm] at hf ⊢; rw [show seen m = unitsOf (run m) from rfl] at hf ⊢; simp only [List.length_append] at hf; rw [fromP, if_neg (by simp [unit_ne]), if_neg hu.1, hu.2.1, hu.2.2.1, ih _ _ _ (by omega), tells_step _ m hm, List.append_assoc]
end Go.Proofs.YtcdehlnkilcgaaaDoor.Pure
