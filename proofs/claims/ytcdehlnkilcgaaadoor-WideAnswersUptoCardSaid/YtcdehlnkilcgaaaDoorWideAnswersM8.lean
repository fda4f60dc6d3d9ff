/- Plain: whole encodings, joins and FromExact of the program and of the reference. -/
import Derived.Test.YtcdehlnkilcgaaaDoorWideAnswersM7
import Derived.Test.YtcdehlnkilcgaaaDoorWideAnswersQe
import Derived.Test.YtcdehlnkilcgaaaDoorWideAnswersQk
namespace Go.Proofs.YtcdehlnkilcgaaaDoor.Pure
open Go.RowKit Go.Proofs.YtcdehlnkilcgaaaDoor.Q Go.Proofs.YtcdehlnkilcgaaaDoorW.PrintWords
def secP (x y : Int) : Prop := (x = 224 ∧ 160 ≤ y ∧ y ≤ 191) ∨ (x = 237 ∧ 128 ≤ y ∧ y ≤ 159) ∨ (x = 240 ∧ 144 ≤ y ∧ y ≤ 191) ∨ (x = 244 ∧ 128 ≤ y ∧ y ≤ 143) ∨ (194 ≤ x ∧ x ≤ 244 ∧ x ≠ 224 ∧ x ≠ 237 ∧ x ≠ 240 ∧ x ≠ 244 ∧ 128 ≤ y ∧ y ≤ 191)
instance (x y : Int) : Decidable (secP x y) := by unfold secP; infer_instance
theorem cls_two (y : Int) (h : 0 ≤ y) : clsOf y = 2 ↔ 128 ≤ y ∧ y ≤ 191 := by
  unfold clsOf; (repeat' split); all_goals omega
theorem need_one (x : Int) : needOf x = 1 ↔ x ≤ 127 := by
  unfold needOf; (repeat' split); all_goals omega
theorem need_two (x : Int) : needOf x = 2 ↔ 194 ≤ x ∧ x ≤ 223 := by
  unfold needOf; (repeat' split); all_goals omega
theorem need_three (x : Int) : needOf x = 3 ↔ 224 ≤ x ∧ x ≤ 239 := by
  unfold needOf; (repeat' split); all_goals omega
theorem need_four (x : Int) : needOf x = 4 ↔ 240 ≤ x ∧ x ≤ 244 := by
  unfold needOf; (repeat' split); all_goals omega
theorem need_gt (x : Int) : 1 < needOf x ↔ 194 ≤ x ∧ x ≤ 244 := by
  unfold needOf; (repeat' split); all_goals omega
theorem class_f (y : Int) (h : 0 ≤ y) (h' : y ≤ 255) : octet_Class.f y = some (clsOf y) := by
  unfold octet_Class.f; rw [if_pos ⟨h, h'⟩]
theorem need_f (y : Int) (h : 0 ≤ y) (h' : y ≤ 255) : octet_Need.f y = some (needOf y) := by
  unfold octet_Need.f; rw [if_pos ⟨h, h'⟩]
theorem ref_class_f (y : Int) : galleyref01_Class.f y = some (clsOf y) := by
  unfold galleyref01_Class.f clsOf; (repeat' split); all_goals rfl
theorem ref_need_f (y : Int) : galleyref01_Need.f y = some (needOf y) := by
  unfold galleyref01_Need.f; rw [ref_class_f]; simp only [Option.bind_some]; unfold clsOf needOf; repeat' split
  all_goals first
    | rfl
    | (exfalso; omega)
theorem second_f (x y : Int) (h : 0 ≤ x) (h' : x ≤ 255) : octet_Second.f x y = some (decide (secP x y)) := by
  have key : ∀ a b : Int, (if y ≥ a then some (decide (y ≤ b)) else some false) = some (decide (a ≤ y ∧ y ≤ b)) := by
    intro a b; by_cases hy : y ≥ a; · rw [if_pos hy]; (congr 1); exact decide_eq_decide.2 ⟨fun e => ⟨hy, e⟩, fun e => e.2⟩
    · rw [if_neg hy]; (congr 1); exact (decide_eq_false (fun e => hy e.1)).symm
  unfold octet_Second.f octet_second.f; rw [need_f x h h']; simp only [Option.bind_some]; have hg := need_gt x
  have fin : ∀ a b : Int, (a ≤ y ∧ y ≤ b ↔ secP x y) → ((some (a, b) : Option (Int × Int)).bind fun bt163 => (if y ≥ bt163.1 then (some (decide (y ≤ bt163.2))) else (some false))) = some (decide (secP x y)) := by
    intro a b e; simp only [Option.bind_some]; rw [key a b]; (congr 1); exact decide_eq_decide.2 e
  repeat' split
  all_goals
    refine fin _ _ ?_; unfold secP; omega
theorem ref_second_f (k : Nat) (hk : 1 ≤ k) (x y : Int) (hy : 0 ≤ y) : galleyref01_Second.f k x y = some (decide (secP x y)) := by
  obtain ⟨k, rfl⟩ : ∃ m, k = m + 1 := ⟨k - 1, by omega⟩; unfold galleyref01_Second.f; rw [ref_need_f, ref_class_f]; simp only [Option.bind_some, galleyref01_Second.j0, bne_iff_ne, ne_eq, if_true]; have hc := cls_two y hy; have hg := need_gt x; repeat' split
  all_goals
    congr 1
    first
    | (refine decide_eq_decide.2 ?_; unfold secP; omega)
    | (refine (decide_eq_true ?_).symm; unfold secP; omega)
    | (refine (decide_eq_false ?_).symm; unfold secP; omega)
/-- A list of one to four bytes is a whole encoding. -/
def wholeP (b : List Int) : Prop := 0 < b.length ∧ lng b = b.length
instance (b : List Int) : Decidable (wholeP b) := by unfold wholeP; infer_instance
theorem whole1 (x : Int) (h : 0 ≤ x) : wholeP [x] ↔ x ≤ 127 := by
  unfold wholeP lng lng4 in3 in4; simp only [List.length_cons, List.length_nil, List.getD_cons_zero, List.getD_cons_succ, List.getD_nil]; (repeat' split); all_goals omega
theorem whole2 (x y : Int) : wholeP [x, y] ↔ (194 ≤ x ∧ x ≤ 223) ∧ (128 ≤ y ∧ y ≤ 191) := by
  unfold wholeP lng lng4 in3 in4; simp only [List.length_cons, List.length_nil, List.getD_cons_zero, List.getD_cons_succ, List.getD_nil]; (repeat' split); all_goals omega
theorem whole3 (x y z : Int) : wholeP [x, y, z] ↔ (128 ≤ z ∧ z ≤ 191) ∧ in3 x y := by
  unfold wholeP lng lng4 in3 in4; simp only [List.length_cons, List.length_nil, List.getD_cons_zero, List.getD_cons_succ, List.getD_nil]; (repeat' split); all_goals omega
theorem whole4 (x y z w : Int) : wholeP [x, y, z, w] ↔ (128 ≤ z ∧ z ≤ 191) ∧ (128 ≤ w ∧ w ≤ 191) ∧ in4 x y := by
  unfold wholeP lng lng4 in3 in4; simp only [List.length_cons, List.length_nil, List.getD_cons_zero, List.getD_cons_succ]; (repeat' split); all_goals omega
theorem rd0 (x : Int) (r : List Int) : rd (x :: r) 0 = x := by simp [rd]
theorem rd1 (x y : Int) (r : List Int) : rd (x :: y :: r) 1 = y := by simp [rd]
theorem rd2 (x y z : Int) (r : List Int) : rd (x :: y :: z :: r) 2 = z := by simp [rd]
theorem rd3 (x y z w : Int) (r : List Int) : rd (x :: y :: z :: w :: r) 3 = w := by simp [rd]
theorem whole_f1 (k : Nat) (hk : 2 ≤ k) (x : Int) (hb : bytes [x]) : octet_Whole.f k [x] = some (decide (wholeP [x])) := by
  obtain ⟨k, rfl⟩ : ∃ m, k = m + 2 := ⟨k - 2, by omega⟩; have hx := hb x (by simp); have h1 := need_one x; have h2 := whole1 x hx.1; unfold octet_Whole.f; simp only [List.length_cons, List.length_nil, rd0, need_f x hx.1 hx.2, octet_Whole.j0, octet_Whole.l0, Option.bind_some, List.tail_cons, bne_iff_ne, ne_eq]; by_cases a : x ≤ 127; · rw [decide_eq_true (h2.2 a)]; simp [h1.2 a]
  · rw [decide_eq_false (fun e => a (h2.1 e))]; have : ¬ needOf x = 1 := fun e => a (h1.1 e); simp [this]
theorem whole_f2 (k : Nat) (hk : 3 ≤ k) (x y : Int) (hb : bytes [x, y]) : octet_Whole.f k [x, y] = some (decide (wholeP [x, y])) := by
  obtain ⟨k, rfl⟩ : ∃ m, k = m + 3 := ⟨k - 3, by omega⟩; have w1 : wrap64 (0 + 1) = 1 := w64 (by omega) (by omega); have hx := hb x (by simp); have hy := hb y (by simp); have h1 := need_two x; have h2 := whole2 x y; have c1 := cls_two y hy.1; unfold octet_Whole.f; simp only [List.length_cons, List.length_nil, rd0, need_f x hx.1 hx.2, octet_Whole.j0, octet_Whole.l0, Option.bind_some, List.tail_cons, bne_iff_ne, ne_eq, class_f y hy.1 hy.2, second_f x _ hx.1 hx.2, decide_eq_true_eq, w1]; rw [if_neg (by omega), if_pos (by omega)]; by_cases a : needOf x = 2
  · rw [if_neg (by omega)]; by_cases b : clsOf y = 2; · (have hs : secP x y := by unfold secP; omega); rw [decide_eq_true (h2.2 (by omega))]; simp [b, hs]
    · rw [decide_eq_false (fun e => b (by have := h2.1 e; omega))]; simp [b]
  · rw [if_pos (by omega), decide_eq_false (fun e => a (by have := h2.1 e; omega))]
theorem whole_f3 (k : Nat) (hk : 4 ≤ k) (x y z : Int) (hb : bytes [x, y, z]) : octet_Whole.f k [x, y, z] = some (decide (wholeP [x, y, z])) := by
  obtain ⟨k, rfl⟩ : ∃ m, k = m + 4 := ⟨k - 4, by omega⟩; have w1 : wrap64 (0 + 1) = 1 := w64 (by omega) (by omega); have w2 : wrap64 (1 + 1) = 2 := w64 (by omega) (by omega); have hx := hb x (by simp); have hy := hb y (by simp); have hz := hb z (by simp); have h1 := need_three x; have h2 := whole3 x y z; have c1 := cls_two y hy.1; have c2 := cls_two z hz.1; unfold octet_Whole.f; simp only [List.length_cons, List.length_nil, rd0, need_f x hx.1 hx.2, octet_Whole.j0, octet_Whole.l0, Option.bind_some, List.tail_cons, bne_iff_ne, ne_eq, class_f y hy.1 hy.2, second_f x _ hx.1 hx.2, decide_eq_true_eq, w1, rd1, class_f z hz.1 hz.2, w2]; rw [if_neg (by omega), if_pos (by omega)]; by_cases a : needOf x = 3
  · rw [if_neg (by omega)]; by_cases b : clsOf y = 2
    · by_cases d : secP x y
      · by_cases c : clsOf z = 2; · rw [decide_eq_true (h2.2 (by unfold in3; unfold secP at d; omega))]; simp [b, c, d]
        · rw [decide_eq_false (fun e => c (by have := h2.1 e; omega))]; simp [b, c, d]
      · rw [decide_eq_false (fun e => d (by have := h2.1 e; unfold in3 at this; unfold secP; omega))]; simp [b, d]
    · rw [decide_eq_false (fun e => b (by have := h2.1 e; unfold in3 at this; omega))]; simp [b]
  · rw [if_pos (by omega), decide_eq_false (fun e => a (by have := h2.1 e; unfold in3 at this; omega))]
theorem whole_f4 (k : Nat) (hk : 5 ≤ k) (x y z w : Int) (hb : bytes [x, y, z, w]) : octet_Whole.f k [x, y, z, w] = some (decide (wholeP [x, y, z, w])) := by
  obtain ⟨k, rfl⟩ : ∃ m, k = m + 5 := ⟨k - 5, by omega⟩; have w1 : wrap64 (0 + 1) = 1 := w64 (by omega) (by omega); have w2 : wrap64 (1 + 1) = 2 := w64 (by omega) (by omega); have w3 : wrap64 (2 + 1) = 3 := w64 (by omega) (by omega); have hx := hb x (by simp); have hy := hb y (by simp); have hz := hb z (by simp); have hw := hb w (by simp); have h1 := need_four x; have h2 := whole4 x y z w; have c1 := cls_two y hy.1; have c2 := cls_two z hz.1; have c3 := cls_two w hw.1; unfold octet_Whole.f; simp only [List.length_cons, List.length_nil, rd0, need_f x hx.1 hx.2, octet_Whole.j0, octet_Whole.l0, Option.bind_some, List.tail_cons, bne_iff_ne, ne_eq, class_f y hy.1 hy.2, second_f x _ hx.1 hx.2, decide_eq_true_eq, w1, rd1, class_f z hz.1 hz.2, w2, rd2, class_f w hw.1 hw.2, w3]; rw [if_neg (by omega), if_pos (by omega)]; by_cases a : needOf x = 4
  · rw [if_neg (by omega)]; by_cases b : clsOf y = 2
    · by_cases d : secP x y
      · by_cases c : clsOf z = 2
        · by_cases c' : clsOf w = 2; · rw [decide_eq_true (h2.2 (by unfold in4; unfold secP at d; omega))]; simp [b, c, c', d]
          · rw [decide_eq_false (fun e => c' (by have := h2.1 e; omega))]; simp [b, c, c', d]
        · rw [decide_eq_false (fun e => c (by have := h2.1 e; omega))]; simp [b, c, d]
      · rw [decide_eq_false (fun e => d (by have := h2.1 e; unfold in4 at this; unfold secP; omega))]; simp [b, d]
    · rw [decide_eq_false (fun e => b (by have := h2.1 e; unfold in4 at this; omega))]; simp [b]
  · rw [if_pos (by omega), decide_eq_false (fun e => a (by have := h2.1 e; unfold in4 at this; omega))]
theorem ref_whole_f1 (k : Nat) (hk : 3 ≤ k) (x : Int) (hb : bytes [x]) : galleyref01_Whole.f k [x] = some (decide (wholeP [x])) := by
  obtain ⟨k, rfl⟩ : ∃ m, k = m + 3 := ⟨k - 3, by omega⟩; have hx := hb x (by simp); have h1 := need_one x; have h2 := whole1 x hx.1; unfold galleyref01_Whole.f galleyref01_Begins.f; simp only [List.length_cons, List.length_nil, rd0, ref_need_f, galleyref01_Begins.j0, galleyref01_Begins.j1, galleyref01_Begins.l0, Option.bind_some, decide_eq_true_eq]; by_cases a : x ≤ 127; · rw [decide_eq_true (h2.2 a)]; simp [h1.2 a]
  · rw [decide_eq_false (fun e => a (h2.1 e))]; have : ¬ needOf x = 1 := fun e => a (h1.1 e); by_cases g : needOf x < 1; · simp [g]
    · (simp [g]); omega
theorem ref_whole_f2 (k : Nat) (hk : 3 ≤ k) (x y : Int) (hb : bytes [x, y]) : galleyref01_Whole.f k [x, y] = some (decide (wholeP [x, y])) := by
  obtain ⟨k, rfl⟩ : ∃ m, k = m + 3 := ⟨k - 3, by omega⟩; have hx := hb x (by simp); have hy := hb y (by simp); have h1 := need_two x; have hg := need_gt x; have h2 := whole2 x y; unfold galleyref01_Whole.f galleyref01_Begins.f; simp only [List.length_cons, List.length_nil, rd0, rd1, ref_need_f, galleyref01_Begins.j0, galleyref01_Begins.j1, galleyref01_Begins.l0, Option.bind_some, decide_eq_true_eq, ref_second_f _ (show 1 ≤ k + 2 by omega) x y hy.1]; by_cases a : needOf x = 2
  · by_cases d : secP x y; · rw [decide_eq_true (h2.2 (by unfold secP at d; omega))]; simp [a, d]
    · rw [decide_eq_false (fun e => d (by have := h2.1 e; unfold secP; omega))]; simp [a, d]
  · rw [decide_eq_false (fun e => a (by have := h2.1 e; omega))]; by_cases g : needOf x < 2; · simp [g]
    · by_cases d : secP x y; · (simp [g, d]); omega
      · simp [g, d]
theorem ref_whole_f3 (k : Nat) (hk : 4 ≤ k) (x y z : Int) (hb : bytes [x, y, z]) : galleyref01_Whole.f k [x, y, z] = some (decide (wholeP [x, y, z])) := by
  obtain ⟨k, rfl⟩ : ∃ m, k = m + 4 := ⟨k - 4, by omega⟩; have w2 : wrap64 (2 + 1) = 3 := w64 (by omega) (by omega); have hx := hb x (by simp); have hy := hb y (by simp); have hz := hb z (by simp); have h1 := need_three x; have h2 := whole3 x y z; have c2 := cls_two z hz.1; unfold galleyref01_Whole.f galleyref01_Begins.f; simp only [List.length_cons, List.length_nil, rd0, rd1, rd2, ref_need_f, galleyref01_Begins.j0, galleyref01_Begins.j1, galleyref01_Begins.l0, Option.bind_some, decide_eq_true_eq, ref_second_f _ (show 1 ≤ k + 3 by omega) x y hy.1, ref_class_f, w2]; by_cases a : needOf x = 3
  · by_cases d : secP x y
    · by_cases c : clsOf z = 2; · rw [decide_eq_true (h2.2 (by unfold in3; unfold secP at d; omega))]; simp [a, c, d]
      · rw [decide_eq_false (fun e => c (by have := h2.1 e; omega))]; simp [a, c, d]
    · rw [decide_eq_false (fun e => d (by have := h2.1 e; unfold in3 at this; unfold secP; omega))]; simp [a, d]
  · rw [decide_eq_false (fun e => a (by have := h2.1 e; unfold in3 at this; omega))]; by_cases g : needOf x < 3; · simp [g]
    · by_cases d : secP x y
      · by_cases c : clsOf z = 2; · (simp [g, d, c]); omega
        · simp [g, d, c]
      · simp [g, d]
theorem ref_whole_f4 (k : Nat) (hk : 5 ≤ k) (x y z w : Int) (hb : bytes [x, y, z, w]) : galleyref01_Whole.f k [x, y, z, w] = some (decide (wholeP [x, y, z, w])) := by
  obtain ⟨k, rfl⟩ : ∃ m, k = m + 5 := ⟨k - 5, by omega⟩; have w2 : wrap64 (2 + 1) = 3 := w64 (by omega) (by omega); have w3 : wrap64 (3 + 1) = 4 := w64 (by omega) (by omega); have hx := hb x (by simp); have hy := hb y (by simp); have hz := hb z (by simp); have hw := hb w (by simp); have h1 := need_four x; have h2 := whole4 x y z w; have c2 := cls_two z hz.1; have c3 := cls_two w hw.1; unfold galleyref01_Whole.f galleyref01_Begins.f; simp only [List.length_cons, List.length_nil, rd0, rd1, rd2, rd3, ref_need_f, galleyref01_Begins.j0, galleyref01_Begins.j1, galleyref01_Begins.l0, Option.bind_some, decide_eq_true_eq, ref_second_f _ (show 1 ≤ k + 4 by omega) x y hy.1, ref_class_f, w2, w3]; by_cases a : needOf x = 4
  · by_cases d : secP x y
    · by_cases c : clsOf z = 2
      · by_cases c' : clsOf w = 2; · rw [decide_eq_true (h2.2 (by unfold in4; unfold secP at d; omega))]; simp [a, c, c', d]
        · rw [decide_eq_false (fun e => c' (by have := h2.1 e; omega))]; simp [a, c, c', d]
      · rw [decide_eq_false (fun e => c (by have := h2.1 e; omega))]; simp [a, c, d]
    · rw [decide_eq_false (fun e => d (by have := h2.1 e; unfold in4 at this; unfold secP; omega))]; simp [a, d]
  · rw [decide_eq_false (fun e => a (by have := h2.1 e; unfold in4 at this; omega))]; by_cases g : needOf x < 4; · simp [g]
    · by_cases d : secP x y
      · by_cases c : clsOf z = 2
        · by_cases c' : clsOf w = 2; · (simp [g, d, c, c']); omega
          · simp [g, d, c, c']
        · simp [g, d, c]
      · simp [g, d]
end Go.Proofs.YtcdehlnkilcgaaaDoor.Pure
