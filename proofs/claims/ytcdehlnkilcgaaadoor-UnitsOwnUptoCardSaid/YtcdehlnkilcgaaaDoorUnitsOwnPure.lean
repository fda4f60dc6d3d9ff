/- The law UnitsOwn, over numbers alone. -/
import Derived.Test.YtcdehlnkilcgaaaDoorUnitsOwnM11
import Derived.Test.YtcdehlnkilcgaaaDoorUnitsOwnM6
import Derived.Test.YtcdehlnkilcgaaaDoorUnitsOwnQ
namespace Go.Proofs.YtcdehlnkilcgaaaDoor.Pure
open Go.RowKit Go.Proofs.YtcdehlnkilcgaaaDoor.Q Go.Proofs.YtcdehlnkilcgaaaDoorW.PrintWords
theorem spoil_l1 : ∀ (d k : Nat) (x0 : List Int) (x : Int), 0 ≤ x → x + d = 40 → d + 1 ≤ k → x0.length + d ≤ 33554432 → galleylaw03_spoil.l1 k x0 x = some () := by
  intro d
  induction d with
  | zero =>
    intro k x0 x h1 h2 hk hl; obtain ⟨k, rfl⟩ : ∃ m, k = m + 1 := ⟨k - 1, by omega⟩
    rw [galleylaw03_spoil.l1, if_neg (by omega)]
  | succ d ih =>
    intro k x0 x h1 h2 hk hl; obtain ⟨k, rfl⟩ : ∃ m, k = m + 1 := ⟨k - 1, by omega⟩; rw [galleylaw03_spoil.l1, if_pos (by omega), if_pos (by omega), w64 (by omega) (by omega)]; exact ih k _ (x + 1) (by omega) (by omega) (by omega) (by simp; omega)
theorem spoil_l0 : ∀ (d k i : Nat) (x0 : List Int) (L : Nat), x0.length = L → i + d = L → L ≤ 16777216 → d + 60 ≤ k → galleylaw03_spoil.l0 k x0 (L : Int) (i : Int) = some () := by
  intro d
  induction d with
  | zero =>
    intro k i x0 L hl hi hL hk; obtain ⟨k, rfl⟩ : ∃ m, k = m + 1 := ⟨k - 1, by omega⟩; rw [galleylaw03_spoil.l0, if_neg (by omega)]
    exact spoil_l1 40 k x0 0 (by omega) (by omega) (by omega) (by omega)
  | succ d ih =>
    intro k i x0 L hl hi hL hk; obtain ⟨k, rfl⟩ : ∃ m, k = m + 1 := ⟨k - 1, by omega⟩; rw [galleylaw03_spoil.l0, if_pos (by omega), if_pos (by omega), if_pos (by omega), w64 (by omega) (by omega), show (i : Int) + 1 = ((i + 1 : Nat) : Int) by omega]; exact ih k (i + 1) _ L (by simp; omega) (by omega) hL (by omega)
theorem spoil_f (k : Nat) (l : List Int) (hl : l.length ≤ 16777216) (hk : l.length + 60 ≤ k) : galleylaw03_spoil.f k l = some () :=
  spoil_l0 l.length k 0 l l.length rfl (by omega) hl hk
theorem rot_l1 : ∀ (d k : Nat) (x0 : List Int) (x : Int), 0 ≤ x → x + d = 40 → d + 1 ≤ k → x0.length + d ≤ 33554432 → galleylaw03_rot.l1 k x0 x = some () := by
  intro d
  induction d with
  | zero =>
    intro k x0 x h1 h2 hk hl; obtain ⟨k, rfl⟩ : ∃ m, k = m + 1 := ⟨k - 1, by omega⟩
    rw [galleylaw03_rot.l1, if_neg (by omega)]
  | succ d ih =>
    intro k x0 x h1 h2 hk hl; obtain ⟨k, rfl⟩ : ∃ m, k = m + 1 := ⟨k - 1, by omega⟩; rw [galleylaw03_rot.l1, if_pos (by omega), if_pos (by omega), w64 (by omega) (by omega)]; exact ih k _ (x + 1) (by omega) (by omega) (by omega) (by simp; omega)
theorem rot_l0 : ∀ (d k i : Nat) (x0 : List Int) (L : Nat), x0.length = L → i + d = L → L ≤ 16777216 → d + 60 ≤ k → galleylaw03_rot.l0 k x0 (L : Int) (i : Int) = some () := by
  intro d
  induction d with
  | zero =>
    intro k i x0 L hl hi hL hk; obtain ⟨k, rfl⟩ : ∃ m, k = m + 1 := ⟨k - 1, by omega⟩; rw [galleylaw03_rot.l0, if_neg (by omega)]
    exact rot_l1 40 k x0 0 (by omega) (by omega) (by omega) (by omega)
  | succ d ih =>
    intro k i x0 L hl hi hL hk; obtain ⟨k, rfl⟩ : ∃ m, k = m + 1 := ⟨k - 1, by omega⟩; rw [galleylaw03_rot.l0, if_pos (by omega), if_pos (by omega), if_pos (by omega), w64 (by omega) (by omega), show (i : Int) + 1 = ((i + 1 : Nat) : Int) by omega]; exact ih k (i + 1) _ L (by simp; omega) (by omega) hL (by omega)
theorem rot_f (k : Nat) (l : List Int) (hl : l.length ≤ 16777216) (hk : l.length + 60 ≤ k) : galleylaw03_rot.f k l = some () :=
  rot_l0 l.length k 0 l l.length rfl (by omega) hl hk
section
variable {l0 l1 : List Int}
theorem uown_l1 (h0 : l0.length ≤ 1048576) (h1 : l1.length ≤ 1048576) (hb : bytes l0) (hu : u16s l1) (x5 : List Int) (h5 : bytes x5) (n5 : x5.length ≤ 1048578) : ∀ (d k i : Nat) (x7 : List Int) (L : Nat), x7.length = L → i + d = L → L ≤ 16777216 → d + 3 * l0.length + 3 * l1.length + 3 * x5.length + 200 ≤ k →
    galleylaw03_UnitsOwn.l1 k l0 l1 x5 x7 ((sufs (l0.length + 1) l0).flatMap seen) ((sufs (l0.length + 1) l0).flatMap exact) (fromP (l1.length + 1) l1 0 []).1 (backP (l1.length + 1) l1 0 []).1 (L : Int) (i : Int) = some true := by
  have b1 := flat_len (g := seen) seen_len (l0.length + 1) l0; have b2 := flat_len (g := exact) exact_len (l0.length + 1) l0; have b3 := flat_len (g := seen) seen_len (x5.length + 1) x5; intro d
  induction d with
  | zero =>
    intro k i x7 L hl hi hL hk; obtain ⟨k, rfl⟩ : ∃ m, k = m + 1 := ⟨k - 1, by omega⟩
    rw [galleylaw03_UnitsOwn.l1, if_neg (by omega), ref_from_f _ l1 hu (by omega) (by omega), Option.bind_some, ref_exact_f _ l1 hu (by omega) (by omega), Option.bind_some, ref_to_f _ l0 hb (by omega) (by omega), Option.bind_some, same_f _ _ _ (by omega) (by omega), Option.bind_some, if_pos (decide_eq_true rfl), ref_toExact_f _ l0 hb (by omega) (by omega), Option.bind_some, same_f _ _ _ (by omega) (by omega), Option.bind_some, if_pos (decide_eq_true rfl), if_pos rfl, if_pos rfl, to_f _ x5 h5 (by omega) (by omega), Option.bind_some, ref_to_f _ x5 h5 (by omega) (by omega), Option.bind_some, same_f _ _ _ (by omega) (by omega), Option.bind_some, decide_eq_true rfl]
  | succ d ih =>
    intro k i x7 L hl hi hL hk; obtain ⟨k, rfl⟩ : ∃ m, k = m + 1 := ⟨k - 1, by omega⟩; rw [galleylaw03_UnitsOwn.l1, if_pos (by omega), if_pos (by omega), if_pos (by omega), w64 (by omega) (by omega), show (i : Int) + 1 = ((i + 1 : Nat) : Int) by omega]; exact ih k (i + 1) _ L (by simp; omega) (by omega) hL (by omega)
theorem uown_l0 (h0 : l0.length ≤ 1048576) (h1 : l1.length ≤ 1048576) (hb : bytes l0) (hu : u16s l1) (x7 : List Int) (n7 : x7.length ≤ 1048578) : ∀ (d k i : Nat) (x5 : List Int) (L : Nat), bytes x5 → x5.length = L → i + d = L → L ≤ 1048578 → d + 5 * l0.length + 3 * l1.length + 3 * x7.length + 3 * L + 300 ≤ k →
    galleylaw03_UnitsOwn.l0 k l0 l1 x5 x7 ((sufs (l0.length + 1) l0).flatMap seen) ((sufs (l0.length + 1) l0).flatMap exact) (fromP (l1.length + 1) l1 0 []).1 (backP (l1.length + 1) l1 0 []).1 (L : Int) (i : Int) = some true := by
  intro d
  induction d with
  | zero =>
    intro k i x5 L h5 hl hi hL hk; obtain ⟨k, rfl⟩ : ∃ m, k = m + 1 := ⟨k - 1, by omega⟩; rw [galleylaw03_UnitsOwn.l0, if_neg (by omega)]; have := uown_l1 h0 h1 hb hu x5 h5 (by omega) x7.length k 0 x7 x7.length rfl (by omega) (by omega) (by omega)
    exact this
  | succ d ih =>
    intro k i x5 L h5 hl hi hL hk; obtain ⟨k, rfl⟩ : ∃ m, k = m + 1 := ⟨k - 1, by omega⟩; rw [galleylaw03_UnitsOwn.l0, if_pos (by omega), if_pos (by omega), if_pos (by omega), w64 (by omega) (by omega), show (i : Int) + 1 = ((i + 1 : Nat) : Int) by omega]; refine ih k (i + 1) _ L ?_ (by simp; omega) (by omega) hL (by omega); intro y hy; rcases List.mem_or_eq_of_mem_set hy with h | h
    · exact h5 y h
    · subst h; omega
end
theorem from_out : ∀ (f : Nat) (m : List Int) (i : Nat) (out : List Int), (fromP f m i out).1.length ≤ out.length + 4 * m.length := by
  intro f
  induction f with
  | zero => intro m i out; simp [fromP]
  | succ f ih =>
    intro m i out; by_cases hm : m = []; · rw [fromP, if_pos hm]; simp
    · rw [fromP, if_neg hm]; by_cases hh : half m; · rw [if_pos hh]; simp
      · rw [if_neg hh]; have h1 := ih (m.drop (nA m)) (i + nA m) (out ++ encP (rA m)); have h2 := enc_le m hm; have h3 := nA_le m hm; simp only [List.length_append, List.length_drop] at h1; omega
theorem back_out : ∀ (f : Nat) (m : List Int) (i : Nat) (out : List Int), (backP f m i out).1.length ≤ out.length + 4 * m.length := by
  intro f
  induction f with
  | zero => intro m i out; simp [backP]
  | succ f ih =>
    intro m i out; by_cases hm : m = []; · rw [backP, if_pos hm]; simp
    · rw [backP, if_neg hm]; have hp := List.length_pos_iff.2 hm; by_cases hh : half m
      · rw [if_pos hh]; by_cases ho : one (m.getD 0 (-1))
        · rw [if_pos ho]; by_cases hj : joinsP 4 m [] = true; · rw [if_pos hj]; simp
          · rw [if_neg hj]; have h1 := ih (m.drop 1) (i + 1) (out ++ [m.getD 0 (-1) - 56320]); simp only [List.length_append, List.length_drop, List.length_cons, List.length_nil] at h1; omega
        · rw [if_neg ho]; simp
      · rw [if_neg hh]; have h1 := ih (m.drop (nA m)) (i + nA m) (out ++ encP (rA m)); have h2 := enc_le m hm; have h3 := nA_le m hm; simp only [List.length_append, List.length_drop] at h1; omega
theorem str_AB (l : List Int) : strOfNums (l ++ [65, 66]) = strOfNums l ++ (⟨#[65, 66]⟩ : ByteArray) := by
  apply ByteArray.ext; simp [strOfNums]
theorem UnitsOwn (l0 l1 : List Int) (h0 : l0.length ≤ 1048576) (hb : ∀ x ∈ l0, 0 ≤ x ∧ x ≤ 255) (h1 : l1.length ≤ 1048576) (hu : ∀ x ∈ l1, 0 ≤ x ∧ x ≤ 65535) : ∃ k, galleylaw03_UnitsOwn.f k l0 l1 = some true := by
  refine ⟨20 * l0.length + 20 * l1.length + 1000, ?_⟩; obtain ⟨k, hk⟩ : ∃ k, 20 * l0.length + 20 * l1.length + 1000 = k + 1 := ⟨20 * l0.length + 20 * l1.length + 999, by omega⟩; rw [hk]; have hw : galleylaw03_wakes.f (k + 1) = some true := at_rounds galleylaw03_wakes.mono (by omega) (show galleylaw03_wakes.f 40 = some true by kernel_rfl); (have ht : (l0 ++ [65, 66]).take ((l0.length : Int)).toNat = l0 := by rw [Int.toNat_natCast, List.take_left]); (have ht1 : (l1 ++ [67, 68]).take ((l1.length : Int)).toNat = l1 := by rw [Int.toNat_natCast, List.take_left]); have r1 : rd (l1 ++ [67, 68]) (l1.length : Int) = 67 := rd_mid l1 [68] 67
  have r2 : rd (l1 ++ [67, 68]) ((l1.length : Int) + 1) = 68 := by
    have := rd_mid (l1 ++ [67]) [] 68; simpa using this
  have b1 := flat_len (g := seen) seen_len (l0.length + 1) l0; have b2 := flat_len (g := exact) exact_len (l0.length + 1) l0; (have c1 : (fromP (l1.length + 1) l1 0 []).1.length ≤ 4 * l1.length := by have := from_out (l1.length + 1) l1 0 []; simpa using this); (have c2 : (backP (l1.length + 1) l1 0 []).1.length ≤ 4 * l1.length := by have := back_out (l1.length + 1) l1 0 []; simpa using this); unfold galleylaw03_UnitsOwn.f; rw [hw, Option.bind_some, if_pos rfl, Option.bind_some, if_pos (by simp; omega), Option.bind_some, Option.bind_some, if_pos (by simp; omega), Option.bind_some, Option.bind_some, if_pos (by simp; omega), Option.bind_some, Option.bind_some, if_pos (by simp; omega), Option.bind_some, List.nil_append, List.nil_append, if_pos (by omega), if_pos (by simp; omega), ht, to_f _ l0 hb (by omega) (by omega), Option.bind_some, Option.bind_some, toExact_f _ l0 hb (by omega) (by omega), Option.bind_some, Option.bind_some, if_pos (by omega), if_pos (by simp; omega), ht1, from_f _ l1 hu (by omega) (by omega), Option.bind_some, Option.bind_some, exact_f _ l1 hu (by omega) (by omega), Option.bind_some, Option.bind_some, if_pos (by rw [strOfNums_size]; omega), if_pos (by rw [str_AB]), same_f _ _ _ (by omega) (by omega), Option.bind_some, if_pos (decide_eq_true rfl), if_pos (by simp; omega), if_pos r1, w64 (by omega) (by omega), if_pos (by omega), if_pos (by simp; try omega), r2, bne_self_eq_false, galleylaw03_UnitsOwn.j0, if_neg (by decide), spoil_f _ _ (by omega) (by omega), Option.bind_some, spoil_f _ _ (by omega) (by omega), Option.bind_some, rot_f _ _ (by omega) (by omega), Option.bind_some, rot_f _ _ (by omega) (by omega), Option.bind_some]; refine uown_l0 h0 h1 hb hu _ (by simp; omega) (l0 ++ [65, 66]).length k 0 (l0 ++ [65, 66]) _ ?_ rfl (by omega) (by simp; omega) (by simp; omega); intro y hy; simp only [List.mem_append, List.mem_cons, List.not_mem_nil, or_false] at hy; rcases hy with h | h | h
  · exact hb y h
  · omega
  · omega
end Go.Proofs.YtcdehlnkilcgaaaDoor.Pure
