/- Plain: encodings, and From of the program and of the reference. -/
import Derived.Test.YtcdehlnkilcgaaaDoorWideAnswersM5
import Derived.Test.YtcdehlnkilcgaaaDoorWideAnswersQc
import Derived.Test.YtcdehlnkilcgaaaDoorWideAnswersQj
namespace Go.Proofs.YtcdehlnkilcgaaaDoor.Pure
open Go.RowKit Go.Proofs.YtcdehlnkilcgaaaDoor.Q Go.Proofs.YtcdehlnkilcgaaaDoorW.PrintWords
/-- The bytes of a rune. -/
def encP (r : Int) : List Int := if r < 128 then [r] else if r < 2048 then [192 + r / 64, 128 + r % 64] else if 55296 ≤ r ∧ r ≤ 57343 then [239, 191, 189] else if r < 65536 then [224 + r / 4096, 128 + r / 64 % 64, 128 + r % 64] else [240 + r / 262144, 128 + r / 4096 % 64, 128 + r / 64 % 64, 128 + r % 64]
theorem or192 (x : Int) (h : 0 ≤ x) (h' : x < 32) : Go.bits .or .u8 192 x = 192 + x := by
  (have : ∀ m : Fin 32, Go.bits .or .u8 192 (m.val : Int) = 192 + (m.val : Int) := by decide); have := this ⟨x.toNat, by omega⟩; simpa [show ((x.toNat : Nat) : Int) = x by omega] using this
theorem or224 (x : Int) (h : 0 ≤ x) (h' : x < 16) : Go.bits .or .u8 224 x = 224 + x := by
  (have : ∀ m : Fin 16, Go.bits .or .u8 224 (m.val : Int) = 224 + (m.val : Int) := by decide); have := this ⟨x.toNat, by omega⟩; simpa [show ((x.toNat : Nat) : Int) = x by omega] using this
theorem or240 (x : Int) (h : 0 ≤ x) (h' : x < 8) : Go.bits .or .u8 240 x = 240 + x := by
  (have : ∀ m : Fin 8, Go.bits .or .u8 240 (m.val : Int) = 240 + (m.val : Int) := by decide); have := this ⟨x.toNat, by omega⟩; simpa [show ((x.toNat : Nat) : Int) = x by omega] using this
theorem append_f (k : Nat) (hk : 1 ≤ k) (out : List Int) (ho : out.length ≤ 16777216) (r : Int) (h0 : 0 ≤ r) (h1 : r ≤ 1114111) : utf8_AppendRune.f k out r = some (out ++ encP r) := by
  obtain ⟨k, rfl⟩ : ∃ m, k = m + 1 := ⟨k - 1, by omega⟩; (have e : r % 4294967296 = r := by omega); unfold utf8_AppendRune.f utf8_appendRuneNonASCII.f; simp only [utf8_appendRuneNonASCII.j0, e, Option.bind_some, List.length_cons, List.length_nil, decide_eq_true_eq]; unfold encP; repeat' split
  all_goals first
    | (exfalso; omega)
    | rw [show r % 256 = r by omega]
    | (rw [show r / 64 % 256 = r / 64 by omega, or192 _ (by omega) (by omega)]; rfl)
    | (rw [show r / 4096 % 256 = r / 4096 by omega, or224 _ (by omega) (by omega)]; rfl)
    | (rw [show r / 262144 % 256 = r / 262144 by omega, or240 _ (by omega) (by omega)]; rfl)
    | rfl
    | (exfalso; simp_all; done)
theorem bytes_f (k : Nat) (hk : 1 ≤ k) (r : Int) (h0 : 0 ≤ r) (h1 : r ≤ 1114111) : galleyref01_Bytes.f k r = some (encP r) := by
  obtain ⟨k, rfl⟩ : ∃ m, k = m + 1 := ⟨k - 1, by omega⟩
  have main : ∀ x : Int, 0 ≤ x → x ≤ 1114111 → ¬ (55296 ≤ x ∧ x ≤ 57343) → galleyref01_Bytes.j0 (k + 1) x = some (encP x) := by
    intro x x0 x1 hx; have d1 : Int.tdiv x 64 = x / 64 := Int.tdiv_eq_ediv_of_nonneg (by omega); have d2 : Int.tdiv x 4096 = x / 4096 := Int.tdiv_eq_ediv_of_nonneg (by omega); have d3 : Int.tdiv x 262144 = x / 262144 := Int.tdiv_eq_ediv_of_nonneg (by omega); have m1 : Int.tmod x 64 = x % 64 := Int.tmod_eq_emod_of_nonneg (by omega); have m2 : Int.tmod (x / 64) 64 = x / 64 % 64 := Int.tmod_eq_emod_of_nonneg (by omega); have m3 : Int.tmod (x / 4096) 64 = x / 4096 % 64 := Int.tmod_eq_emod_of_nonneg (by omega); have w0 : wrap64 x = x := w64 (by omega) (by omega); have w1 : wrap64 (x / 64) = x / 64 := w64 (by omega) (by omega); have w2 : wrap64 (x / 4096) = x / 4096 := w64 (by omega) (by omega); have w3 : wrap64 (x / 262144) = x / 262144 := w64 (by omega) (by omega); have v1 : wrap64 (x % 64) = x % 64 := w64 (by omega) (by omega); have v2 : wrap64 (x / 64 % 64) = x / 64 % 64 := w64 (by omega) (by omega); have v3 : wrap64 (x / 4096 % 64) = x / 4096 % 64 := w64 (by omega) (by omega); unfold galleyref01_Bytes.j0 encP; simp only [w0, d1, d2, d3, w1, w2, w3, m1, m2, m3]; by_cases a1 : x < 128; · rw [if_pos a1, if_pos a1, show x % 256 = x by omega]
    · rw [if_neg a1, if_neg a1]; by_cases a2 : x < 2048; · rw [if_pos a2, if_pos a2, w64 (x := 192 + x / 64) (by omega) (by omega), w64 (x := 128 + x % 64) (by omega) (by omega), show (192 + x / 64) % 256 = 192 + x / 64 by omega, show (128 + x % 64) % 256 = 128 + x % 64 by omega]
      · rw [if_neg a2, if_neg a2, if_neg hx]; by_cases a3 : x < 65536; · rw [if_pos a3, if_pos a3, w64 (x := 224 + x / 4096) (by omega) (by omega), w64 (x := 128 + x / 64 % 64) (by omega) (by omega), w64 (x := 128 + x % 64) (by omega) (by omega), show (224 + x / 4096) % 256 = 224 + x / 4096 by omega, show (128 + x / 64 % 64) % 256 = 128 + x / 64 % 64 by omega, show (128 + x % 64) % 256 = 128 + x % 64 by omega]
        · rw [if_neg a3, if_neg a3, w64 (x := 240 + x / 262144) (by omega) (by omega), w64 (x := 128 + x / 4096 % 64) (by omega) (by omega), w64 (x := 128 + x / 64 % 64) (by omega) (by omega), w64 (x := 128 + x % 64) (by omega) (by omega), show (240 + x / 262144) % 256 = 240 + x / 262144 by omega, show (128 + x / 4096 % 64) % 256 = 128 + x / 4096 % 64 by omega, show (128 + x / 64 % 64) % 256 = 128 + x / 64 % 64 by omega, show (128 + x % 64) % 256 = 128 + x % 64 by omega]
  have hIs : galleyref01_Is.f r = some (decide (¬ (55296 ≤ r ∧ r ≤ 57343))) := by
    unfold galleyref01_Is.f; rw [if_pos h0]; by_cases a : r < 55296; · rw [if_pos a, decide_eq_true (by omega)]
    · rw [if_neg a]; by_cases b : r > 57343; · rw [if_pos b, decide_eq_true h1, decide_eq_true (by omega)]
      · rw [if_neg b, decide_eq_false (by omega)]
  unfold galleyref01_Bytes.f; rw [hIs]; simp only [Option.bind_some]; by_cases h : 55296 ≤ r ∧ r ≤ 57343; · rw [if_neg (by simpa using h), main 65533 (by omega) (by omega) (by omega)]; unfold encP; rw [if_neg (show ¬ r < 128 by omega), if_neg (show ¬ r < 2048 by omega), if_pos h]; decide
  · rw [if_pos (decide_eq_true h), main r h0 h1 h]
theorem encP_len (r : Int) : 1 ≤ (encP r).length ∧ (encP r).length ≤ 4 := by
  unfold encP; (repeat' split); all_goals simp
def hi (u : Int) : Prop := 55296 ≤ u ∧ u ≤ 56319
def lo (u : Int) : Prop := 56320 ≤ u ∧ u ≤ 57343
instance (u : Int) : Decidable (hi u) := by unfold hi; infer_instance
instance (u : Int) : Decidable (lo u) := by unfold lo; infer_instance
def two (m : List Int) : Prop := hi (m.getD 0 (-1)) ∧ lo (m.getD 1 (-1))
instance (m : List Int) : Decidable (two m) := by unfold two; infer_instance
def half (m : List Int) : Prop := ¬ two m ∧ (hi (m.getD 0 (-1)) ∨ lo (m.getD 0 (-1)))
instance (m : List Int) : Decidable (half m) := by unfold half; infer_instance
def rA (m : List Int) : Int := if two m then 65536 + (m.getD 0 (-1) - 55296) * 1024 + (m.getD 1 (-1) - 56320) else m.getD 0 (-1)
def nA (m : List Int) : Nat := if two m then 2 else 1
def u16s (l : List Int) : Prop := ∀ x ∈ l, 0 ≤ x ∧ x ≤ 65535
theorem u16_get (l : List Int) (hu : u16s l) (j : Nat) (hj : j < l.length) : 0 ≤ l.getD j (-1) ∧ l.getD j (-1) ≤ 65535 := by
  have := hu l[j] (List.getElem_mem hj); simpa [List.getD_eq_getElem?_getD, hj] using this
theorem high_f (u : Int) : units_high.f u = some (decide (hi u)) := by
  unfold units_high.f; by_cases h : u ≥ 55296; · rw [if_pos h]; (congr 1); exact decide_eq_decide.2 ⟨fun e => ⟨h, e⟩, fun e => e.2⟩
  · rw [if_neg h]; (congr 1); exact (decide_eq_false (fun e => h e.1)).symm
theorem low_f (u : Int) : units_low.f u = some (decide (lo u)) := by
  unfold units_low.f; by_cases h : u ≥ 56320; · rw [if_pos h]; (congr 1); exact decide_eq_decide.2 ⟨fun e => ⟨h, e⟩, fun e => e.2⟩
  · rw [if_neg h]; (congr 1); exact (decide_eq_false (fun e => h e.1)).symm
theorem ref_high_f (u : Int) : galleyref03_High.f u = some (decide (hi u)) := by
  unfold galleyref03_High.f; by_cases h : u ≥ 55296; · rw [if_pos h]; (congr 1); exact decide_eq_decide.2 ⟨fun e => ⟨h, e⟩, fun e => e.2⟩
  · rw [if_neg h]; (congr 1); exact (decide_eq_false (fun e => h e.1)).symm
theorem ref_low_f (u : Int) : galleyref03_Low.f u = some (decide (lo u)) := by
  unfold galleyref03_Low.f; by_cases h : u ≥ 56320; · rw [if_pos h]; (congr 1); exact decide_eq_decide.2 ⟨fun e => ⟨h, e⟩, fun e => e.2⟩
  · rw [if_neg h]; (congr 1); exact (decide_eq_false (fun e => h e.1)).symm
def fromP : Nat → List Int → Nat → List Int → List Int × Int × Int
  | 0, _, _, out => (out, 0, 0)
  | f + 1, m, i, out => if m = [] then (out, 0, 0) else if half m then ([], (i : Int), 30) else fromP f (m.drop (nA m)) (i + nA m) (out ++ encP (rA m))
theorem drop_getD (l : List Int) (i j : Nat) : (l.drop i).getD j (-1) = l.getD (i + j) (-1) := by simp [List.getD_eq_getElem?_getD, List.getElem?_drop]
theorem two_at (l : List Int) (i : Nat) : two (l.drop i) ↔ hi (l.getD i (-1)) ∧ lo (l.getD (i + 1) (-1)) := by
  unfold two; rw [drop_getD, drop_getD]; exact Iff.rfl
theorem half_at (l : List Int) (i : Nat) : half (l.drop i) ↔ ¬ two (l.drop i) ∧ (hi (l.getD i (-1)) ∨ lo (l.getD i (-1))) := by
  unfold half; rw [drop_getD]; exact Iff.rfl
theorem two_lt (m : List Int) (h : two m) : 2 ≤ m.length := by
  have := h.2; unfold lo at this; exact getD_lt m 1 (by omega)
theorem rA_bd (m : List Int) (hu : u16s m) (hm : m ≠ []) : 0 ≤ rA m ∧ rA m ≤ 1114111 := by
  have h0 := u16_get m hu 0 (List.length_pos_iff.2 hm); unfold rA; by_cases h : two m; · rw [if_pos h]; obtain ⟨h1, h2⟩ := h; unfold hi at h1; unfold lo at h2; omega
  · rw [if_neg h]; omega
/-- What Join and the rune of one unit answer. -/
theorem join_two (a b : Int) (h1 : hi a) (h2 : lo b) : joinP a b = (65536 + (a - 55296) * 1024 + (b - 56320), true) := by
  unfold joinP; rw [if_pos ⟨h1, h2⟩]
theorem from_l0 (l : List Int) (hu : u16s l) (hn : l.length ≤ 2097152) : ∀ (f k i : Nat) (out : List Int), l.length - i ≤ f → i ≤ l.length → 2 * f + 4 ≤ k → out.length + 4 * f ≤ 16777216 →
    units_From.l0 k l out (i : Int) = some (fromP f (l.drop i) i out) := by
  intro f
  induction f with
  | zero =>
    intro k i out hd hi' hk ho; obtain ⟨k, rfl⟩ : ∃ m, k = m + 1 := ⟨k - 1, by omega⟩; rw [units_From.l0, if_neg (by omega)]
    rfl
  | succ f ih =>
    intro k i out hd hi' hk ho; obtain ⟨k, rfl⟩ : ∃ m, k = m + 2 := ⟨k - 2, by omega⟩; by_cases h : i < l.length
    · (have hm : l.drop i ≠ [] := by simp; omega); have hum : u16s (l.drop i) := fun x hx => hu x (List.mem_of_mem_drop hx); have hr := rA_bd (l.drop i) hum hm; have g0 : (l.drop i).getD 0 (-1) = l.getD i (-1) := drop_getD l i 0; have g1 : (l.drop i).getD 1 (-1) = l.getD (i + 1) (-1) := drop_getD l i 1; have b0 := u16_get l hu i h; have he := encP_len (rA (l.drop i)); have e1 : (i : Int) + 1 = ((i + 1 : Nat) : Int) := by omega
      have flag : units_From.l0 (k + 2) l out (i : Int) = units_From.j1 (k + 1) l out (i : Int) (decide (two (l.drop i))) := by
        rw [units_From.l0, if_pos (by omega), w64 (by omega) (by omega), e1]; by_cases h1 : i + 1 < l.length
        · rw [if_pos (by omega), if_pos (by omega), rd_eq l i (by omega), rd_eq l (i + 1) (by omega), high_f, low_f]; simp only [Option.bind_some, decide_eq_true_eq]; by_cases h2 : hi (l.getD i (-1)); · rw [if_pos h2, if_pos (by omega)]; (congr 1); exact decide_eq_decide.2 ⟨fun e => (two_at l i).2 ⟨h2, e⟩, fun e => ((two_at l i).1 e).2⟩
          · rw [if_neg h2]; (congr 1); (symm); apply decide_eq_false; exact fun ht => h2 ((two_at l i).1 ht).1
        · rw [if_neg (by omega)]; (congr 1); (symm); apply decide_eq_false; intro ht; have := two_lt _ ht; (simp at this); omega
      rw [flag, units_From.j1, fromP, if_neg hm]; simp only [decide_eq_true_eq]; by_cases ht : two (l.drop i); · have hl := two_lt _ ht; simp only [List.length_drop] at hl; have b1 := u16_get l hu (i + 1) (by omega); have ht' := ht; unfold two at ht'; rw [g0, g1] at ht'; rw [if_pos ht, if_pos (by omega), if_pos (by omega), w64 (by omega) (by omega), e1, if_pos (by omega), if_pos (by omega), rd_eq l i (by omega), rd_eq l (i + 1) (by omega), join_f _ _ b0.1 b0.2 b1.1 b1.2, join_two _ _ ht'.1 ht'.2]; simp only [Option.bind_some]; (have er : rA (l.drop i) = 65536 + (l.getD i (-1) - 55296) * 1024 + (l.getD (i + 1) (-1) - 56320) := by unfold rA; rw [if_pos ht, g0, g1]); rw [← er, append_f _ (by omega) _ (by omega) _ hr.1 hr.2, if_neg (by unfold half; exact fun hh => hh.1 ht)]; simp only [Option.bind_some]; rw [w64 (by omega) (by omega), show ((i + 1 : Nat) : Int) + 1 = ((i + 2 : Nat) : Int) by omega, ih k (i + 2) _ (by omega) (by omega) (by omega) (by simp; omega)]; (have en : nA (l.drop i) = 2 := by unfold nA; rw [if_pos ht]); rw [en, List.drop_drop]
      · rw [if_neg ht, if_pos (by omega), if_pos (by omega), rd_eq l i (by omega), high_f, low_f]; simp only [Option.bind_some, decide_eq_true_eq]; by_cases h1 : hi (l.getD i (-1)); · rw [if_pos h1, if_pos (by unfold half; rw [g0]; exact ⟨ht, .inl h1⟩)]
        · rw [if_neg h1]; by_cases h2 : lo (l.getD i (-1)); · rw [if_pos h2, if_pos (by unfold half; rw [g0]; exact ⟨ht, .inr h2⟩)]
          · rw [if_neg h2, if_neg (by unfold half; rw [g0]; exact fun hh => hh.2.elim h1 h2)]; (have er : rA (l.drop i) = l.getD i (-1) := by unfold rA; rw [if_neg ht, g0]); (have en : nA (l.drop i) = 1 := by unfold nA; rw [if_neg ht]); rw [w32 (by omega) (by omega), ← er, append_f _ (by omega) _ (by omega) _ hr.1 hr.2]; simp only [Option.bind_some]; rw [w64 (by omega) (by omega), e1, ih k (i + 1) _ (by omega) (by omega) (by omega) (by simp; omega), en, List.drop_drop]
    · rw [units_From.l0, if_neg (by omega), fromP, if_pos (by simp; omega)]
theorem from_f (k : Nat) (l : List Int) (hu : u16s l) (hn : l.length ≤ 2097152) (hk : 2 * l.length + 10 ≤ k) : units_From.f k l = some (fromP (l.length + 1) l 0 []) := by
  unfold units_From.f; have := from_l0 l hu hn (l.length + 1) k 0 [] (by omega) (by omega) (by omega) (by simp; omega); simpa using this
theorem pair_f (l : List Int) (hn : l.length ≤ 2097152) (i : Nat) (h : i < l.length) : galleyref03_pair.f l (i : Int) = some (decide (two (l.drop i))) := by
  unfold galleyref03_pair.f; rw [w64 (by omega) (by omega), show (i : Int) + 1 = ((i + 1 : Nat) : Int) by omega]; by_cases h1 : i + 1 < l.length
  · rw [if_neg (by omega), if_pos (by omega), if_pos (by omega), rd_eq l i (by omega), rd_eq l (i + 1) (by omega), ref_high_f, ref_low_f]; simp only [Option.bind_some, decide_eq_true_eq]; rw [if_pos (by omega), if_pos (by omega)]; by_cases h2 : hi (l.getD i (-1)); · rw [if_pos h2]; (congr 1); exact decide_eq_decide.2 ⟨fun e => (two_at l i).2 ⟨h2, e⟩, fun e => ((two_at l i).1 e).2⟩
    · rw [if_neg h2]; (congr 1); exact (decide_eq_false (fun e => h2 ((two_at l i).1 e).1)).symm
  · rw [if_pos (by omega)]; (congr 1); (symm); apply decide_eq_false; intro ht; have := two_lt _ ht; (simp at this); omega
theorem lone_f (l : List Int) (hn : l.length ≤ 2097152) (i : Nat) (h : i < l.length) : galleyref03_lone.f l (i : Int) = some (decide (half (l.drop i))) := by
  unfold galleyref03_lone.f; rw [pair_f l hn i h]; simp only [Option.bind_some]; rw [if_pos (by omega), if_pos (by omega), rd_eq l i (by omega), ref_high_f, ref_low_f]; simp only [Option.bind_some, decide_eq_true_eq]; by_cases ht : two (l.drop i); · rw [if_pos ht]; (congr 1); exact (decide_eq_false (fun e => ((half_at l i).1 e).1 ht)).symm
  · rw [if_neg ht]; by_cases h1 : hi (l.getD i (-1)); · rw [if_pos h1]; (congr 1); exact (decide_eq_true ((half_at l i).2 ⟨ht, .inl h1⟩)).symm
    · rw [if_neg h1]; (congr 1); exact decide_eq_decide.2 ⟨fun e => (half_at l i).2 ⟨ht, .inr e⟩, fun e => ((half_at l i).1 e).2.resolve_left h1⟩
theorem place_f (l : List Int) (hu : u16s l) (hn : l.length ≤ 2097152) (i : Nat) (h : i < l.length) : galleyref03_at.f l (i : Int) = some (rA (l.drop i), ((nA (l.drop i) : Nat) : Int)) := by
  have g0 : (l.drop i).getD 0 (-1) = l.getD i (-1) := drop_getD l i 0; have g1 : (l.drop i).getD 1 (-1) = l.getD (i + 1) (-1) := drop_getD l i 1; have b0 := u16_get l hu i h; unfold galleyref03_at.f; rw [pair_f l hn i h]; simp only [Option.bind_some, decide_eq_true_eq]; unfold rA nA; by_cases ht : two (l.drop i); · have hl := two_lt _ ht; simp only [List.length_drop] at hl; have b1 := u16_get l hu (i + 1) (by omega); have ht' := ht; unfold two at ht'; rw [g0, g1] at ht'; rw [if_pos ht, if_pos ht, if_pos ht, if_pos (by omega), if_pos (by omega), w64 (by omega) (by omega), show (i : Int) + 1 = ((i + 1 : Nat) : Int) by omega, if_pos (by omega), if_pos (by omega), rd_eq l i (by omega), rd_eq l (i + 1) (by omega), ref_join_f _ _ b0.1 b0.2 b1.1 b1.2, join_two _ _ ht'.1 ht'.2, g0, g1]; rfl
  · rw [if_neg ht, if_neg ht, if_neg ht, if_pos (by omega), if_pos (by omega), rd_eq l i (by omega), w32 (by omega) (by omega), g0]; rfl
theorem nA_le (m : List Int) (hm : m ≠ []) : 1 ≤ nA m ∧ nA m ≤ m.length := by
  have := List.length_pos_iff.2 hm; unfold nA; by_cases h : two m; · have := two_lt m h; rw [if_pos h]; omega
  · rw [if_neg h]; omega
theorem refFrom_l0 (l : List Int) (hu : u16s l) (hn : l.length ≤ 2097152) : ∀ (f k i : Nat) (out : List Int), l.length - i ≤ f → i ≤ l.length → f + 2 ≤ k → out.length + 4 * f ≤ 16777216 →
    galleyref03_From.l0 k l out (i : Int) = some (fromP f (l.drop i) i out) := by
  intro f
  induction f with
  | zero =>
    intro k i out hd hi' hk ho; obtain ⟨k, rfl⟩ : ∃ m, k = m + 1 := ⟨k - 1, by omega⟩; rw [galleyref03_From.l0, if_neg (by omega)]
    rfl
  | succ f ih =>
    intro k i out hd hi' hk ho; obtain ⟨k, rfl⟩ : ∃ m, k = m + 1 := ⟨k - 1, by omega⟩; rw [galleyref03_From.l0]; by_cases h : i < l.length
    · (have hm : l.drop i ≠ [] := by simp; omega); have hum : u16s (l.drop i) := fun x hx => hu x (List.mem_of_mem_drop hx); have hr := rA_bd (l.drop i) hum hm; have he := encP_len (rA (l.drop i)); have hna := nA_le (l.drop i) hm; simp only [List.length_drop] at hna; rw [if_pos (by omega), lone_f l hn i h, place_f l hu hn i h, fromP, if_neg hm]; simp only [Option.bind_some, decide_eq_true_eq]; by_cases hh : half (l.drop i); · rw [if_pos hh, if_pos hh]
      · rw [if_neg hh, if_neg hh, bytes_f k (by omega) _ hr.1 hr.2]; simp only [Option.bind_some]; rw [if_pos (by omega), w64 (by omega) (by omega), show (i : Int) + ((nA (l.drop i) : Nat) : Int) = ((i + nA (l.drop i) : Nat) : Int) by omega, ih k _ _ (by omega) (by omega) (by omega) (by simp; omega), List.drop_drop]
    · rw [if_neg (by omega), fromP, if_pos (by simp; omega)]
theorem ref_from_f (k : Nat) (l : List Int) (hu : u16s l) (hn : l.length ≤ 2097152) (hk : l.length + 10 ≤ k) : galleyref03_From.f k l = some (fromP (l.length + 1) l 0 []) := by
  unfold galleyref03_From.f; have := refFrom_l0 l hu hn (l.length + 1) k 0 [] (by omega) (by omega) (by omega) (by simp; omega); simpa using this
end Go.Proofs.YtcdehlnkilcgaaaDoor.Pure
