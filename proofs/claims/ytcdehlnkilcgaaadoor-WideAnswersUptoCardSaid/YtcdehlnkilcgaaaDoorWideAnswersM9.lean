/- Plain: joins and FromExact of the program and of the reference. -/
import Derived.Test.YtcdehlnkilcgaaaDoorWideAnswersM8
namespace Go.Proofs.YtcdehlnkilcgaaaDoor.Pure
open Go.RowKit Go.Proofs.YtcdehlnkilcgaaaDoor.Q Go.Proofs.YtcdehlnkilcgaaaDoorW.PrintWords
theorem whole_f (k : Nat) (hk : 20 ≤ k) (b : List Int) (hb : bytes b) (h0 : 0 < b.length) (hl : b.length ≤ 4) : octet_Whole.f k b = some (decide (wholeP b)) := by
  match b, hb, h0, hl with
  | [x], hb, _, _ => exact whole_f1 k (by omega) x hb
  | [x, y], hb, _, _ => exact whole_f2 k (by omega) x y hb
  | [x, y, z], hb, _, _ => exact whole_f3 k (by omega) x y z hb
  | [x, y, z, w], hb, _, _ => exact whole_f4 k (by omega) x y z w hb
theorem ref_whole_f (k : Nat) (hk : 20 ≤ k) (b : List Int) (hb : bytes b) (h0 : 0 < b.length) (hl : b.length ≤ 4) : galleyref01_Whole.f k b = some (decide (wholeP b)) := by
  match b, hb, h0, hl with
  | [x], hb, _, _ => exact ref_whole_f1 k (by omega) x hb
  | [x, y], hb, _, _ => exact ref_whole_f2 k (by omega) x y hb
  | [x, y, z], hb, _, _ => exact ref_whole_f3 k (by omega) x y z hb
  | [x, y, z, w], hb, _, _ => exact ref_whole_f4 k (by omega) x y z w hb
/-- The unit stands for a byte. -/
def one (u : Int) : Prop := 56448 ≤ u ∧ u ≤ 56575
instance (u : Int) : Decidable (one u) := by unfold one; infer_instance
/-- The byte units ahead of `m`, behind the bytes `b`, make an encoding: `d` looks. -/
def joinsP : Nat → List Int → List Int → Bool
  | 0, _, _ => false
  | d + 1, m, b => if m = [] then false else if one (m.getD 0 (-1)) then (if wholeP (b ++ [m.getD 0 (-1) - 56320]) then true else joinsP d (m.drop 1) (b ++ [m.getD 0 (-1) - 56320])) else false
theorem one_f (u : Int) : units_alone.f u = some (u % 256, decide (one u)) := by
  unfold units_alone.f; by_cases h : u ≥ 56448; · rw [if_pos h]; (congr 2); exact decide_eq_decide.2 ⟨fun e => ⟨h, e⟩, fun e => e.2⟩
  · rw [if_neg h]; (congr 2); exact (decide_eq_false (fun e => h e.1)).symm
theorem ref_one_f (u : Int) : galleyref03_Byte.f u = some (decide (one u)) := by
  unfold galleyref03_Byte.f; by_cases h : u ≥ 56448; · rw [if_pos h]; (congr 1); exact decide_eq_decide.2 ⟨fun e => ⟨h, e⟩, fun e => e.2⟩
  · rw [if_neg h]; (congr 1); exact (decide_eq_false (fun e => h e.1)).symm
theorem bytes_snoc {b : List Int} {u : Int} (hb : bytes b) (hu : one u) : bytes (b ++ [u - 56320]) := by
  intro x hx; rcases List.mem_append.1 hx with h | h
  · exact hb x h
  · (simp at h); unfold one at hu; omega
theorem joins_l0 (m : List Int) (hn : m.length ≤ 2097152) : ∀ (d k i : Nat) (b : List Int), d + b.length = 4 → bytes b → i ≤ m.length → 2 * d + 30 ≤ k →
    units_joins.l0 k b m (m.length : Int) (i : Int) = some (joinsP d (m.drop i) b) := by
  intro d
  induction d with
  | zero =>
    intro k i b hd hb hi hk; obtain ⟨k, rfl⟩ : ∃ m, k = m + 2 := ⟨k - 2, by omega⟩; rw [units_joins.l0, joinsP]; by_cases h : i < m.length
    · rw [if_pos (by omega), if_pos (by omega), if_pos (by omega), one_f]; simp only [Option.bind_some]; (have e : ((b.length : Int) == 4) = true := by rw [beq_iff_eq]; omega); rw [e]; by_cases ho : decide (one (rd m (i : Int))) = true; · rw [if_pos ho, units_joins.j1, if_pos rfl]
      · rw [if_neg ho, units_joins.j1, if_pos rfl]
    · rw [if_neg (by omega)]
  | succ d ih =>
    intro k i b hd hb hi hk; obtain ⟨k, rfl⟩ : ∃ m, k = m + 2 := ⟨k - 2, by omega⟩; rw [units_joins.l0, joinsP]; by_cases h : i < m.length
    · have e0 : (m.drop i).getD 0 (-1) = m.getD i (-1) := drop_getD m i 0; rw [if_pos (by omega), if_pos (by omega), if_pos (by omega), one_f, rd_eq m i h, e0, if_neg (show ¬ m.drop i = [] by simp; omega)]; simp only [Option.bind_some, decide_eq_true_eq]; (have e : ((b.length : Int) == 4) = false := by rw [beq_eq_false_iff_ne]; omega); rw [e]; by_cases ho : one (m.getD i (-1))
      · (have e8 : m.getD i (-1) % 256 = m.getD i (-1) - 56320 := by unfold one at ho; omega); rw [if_pos ho, if_pos ho, units_joins.j1, if_neg (by decide), if_pos (by omega)]; simp only [Option.bind_some]; rw [e8, whole_f k (by omega) _ (bytes_snoc hb ho) (by simp) (by simp; omega)]; simp only [Option.bind_some, decide_eq_true_eq]; by_cases hw : wholeP (b ++ [m.getD i (-1) - 56320]); · rw [if_pos hw, if_pos hw]
        · rw [if_neg hw, if_neg hw, w64 (by omega) (by omega), show (i : Int) + 1 = ((i + 1 : Nat) : Int) by omega, ih k (i + 1) _ (by simp; omega) (bytes_snoc hb ho) (by omega) (by omega), List.drop_drop]
      · rw [if_neg ho, if_neg ho, units_joins.j1, if_pos rfl]
    · rw [if_neg (by omega), if_pos (by simp; omega)]
theorem joins_f (k : Nat) (m : List Int) (hn : m.length ≤ 2097152) (hk : 40 ≤ k) : units_joins.f k m = some (joinsP 4 m []) := by
  unfold units_joins.f; have := joins_l0 m hn 4 k 0 [] (by simp) (fun x hx => by cases hx) (by omega) (by omega); simpa using this
theorem ref_joins_l0 (m : List Int) (hn : m.length ≤ 2097152) (s : Nat) : ∀ (d k i : Nat) (b : List Int), d + b.length = 4 → i = s + b.length → bytes b → i ≤ m.length → 2 * d + 30 ≤ k →
    galleyref03_joins.l0 k m (s : Int) b (i : Int) = some (joinsP d (m.drop i) b) := by
  intro d
  induction d with
  | zero =>
    intro k i b hd hs hb hi hk; obtain ⟨k, rfl⟩ : ∃ m, k = m + 2 := ⟨k - 2, by omega⟩; rw [galleyref03_joins.l0, joinsP, w64 (by omega) (by omega), decide_eq_false (by omega)]; (have e : galleyref03_joins.j1 (k + 1) m (s : Int) b (i : Int) false = some false := by rw [galleyref03_joins.j1, if_neg (by decide)]); rw [e]
    simp
  | succ d ih =>
    intro k i b hd hs hb hi hk; obtain ⟨k, rfl⟩ : ∃ m, k = m + 2 := ⟨k - 2, by omega⟩; rw [galleyref03_joins.l0, joinsP]; by_cases h : i < m.length
    · have e0 : (m.drop i).getD 0 (-1) = m.getD i (-1) := drop_getD m i 0; rw [if_pos (by omega), w64 (x := (s : Int) + 4) (by omega) (by omega), decide_eq_true (by omega), galleyref03_joins.j1, if_pos rfl, if_pos (by omega), if_pos (by omega), ref_one_f, rd_eq m i h, e0, if_neg (show ¬ m.drop i = [] by simp; omega)]; simp only [Option.bind_some, decide_eq_true_eq]; by_cases ho : one (m.getD i (-1))
      · have e8 : wrap64 (wrap64 (m.getD i (-1)) - 56320) % 256 = m.getD i (-1) - 56320 := by
          unfold one at ho; rw [w64 (x := m.getD i (-1)) (by omega) (by omega), w64 (by omega) (by omega)]; omega
        rw [if_pos ho, if_pos ho, if_pos (by omega), e8, ref_whole_f k (by omega) _ (bytes_snoc hb ho) (by simp) (by simp; omega)]; simp only [Option.bind_some, decide_eq_true_eq]; by_cases hw : wholeP (b ++ [m.getD i (-1) - 56320]); · rw [if_pos hw, if_pos hw]
        · rw [if_neg hw, if_neg hw, w64 (by omega) (by omega), show (i : Int) + 1 = ((i + 1 : Nat) : Int) by omega, ih k (i + 1) _ (by simp; omega) (by simp; omega) (bytes_snoc hb ho) (by omega) (by omega), List.drop_drop]
      · rw [if_neg ho, if_neg ho]
    · rw [if_neg (by omega), galleyref03_joins.j1, if_neg (by decide), if_pos (by simp; omega)]
theorem ref_joins_f (k : Nat) (m : List Int) (hn : m.length ≤ 2097152) (i : Nat) (h : i ≤ m.length) (hk : 40 ≤ k) : galleyref03_joins.f k m (i : Int) = some (joinsP 4 (m.drop i) []) := by
  unfold galleyref03_joins.f; exact ref_joins_l0 m hn i 4 k i [] (by simp) (by simp) (fun x hx => by cases hx) h (by omega)
def backP : Nat → List Int → Nat → List Int → List Int × Int × Int
  | 0, _, _, out => (out, 0, 0)
  | f + 1, m, i, out => if m = [] then (out, 0, 0) else if half m then (if one (m.getD 0 (-1)) then (if joinsP 4 m [] = true then ([], (i : Int), 31) else backP f (m.drop 1) (i + 1) (out ++ [m.getD 0 (-1) - 56320])) else ([], (i : Int), 30)) else backP f (m.drop (nA m)) (i + nA m) (out ++ encP (rA m))
theorem one_half (m : List Int) (h : one (m.getD 0 (-1))) : half m := by
  unfold half two hi lo; unfold one at h; omega
theorem exact_flag (l : List Int) (hn : l.length ≤ 2097152) (k i : Nat) (out : List Int) (h : i < l.length) : units_FromExact.l0 (k + 1) l out (i : Int) = units_FromExact.j1 k l out (i : Int) (l.getD i (-1) % 256) (decide (one (l.getD i (-1)))) (decide (two (l.drop i))) := by
  (have e1 : (i : Int) + 1 = ((i + 1 : Nat) : Int) := by omega); rw [units_FromExact.l0, if_pos (by omega), if_pos (by omega), rd_eq l i (by omega), one_f, w64 (by omega) (by omega), e1]; simp only [Option.bind_some]; by_cases h1 : i + 1 < l.length
  · rw [if_pos (by omega), rd_eq l (i + 1) (by omega), high_f, low_f]; simp only [Option.bind_some, decide_eq_true_eq]; by_cases h2 : hi (l.getD i (-1)); · rw [if_pos h2, if_pos (by omega)]; (congr 1); exact decide_eq_decide.2 ⟨fun e => (two_at l i).2 ⟨h2, e⟩, fun e => ((two_at l i).1 e).2⟩
    · rw [if_neg h2]; (congr 1); (symm); apply decide_eq_false; exact fun ht => h2 ((two_at l i).1 ht).1
  · rw [if_neg (by omega)]; (congr 1); (symm); apply decide_eq_false; intro ht; have := two_lt _ ht; (simp at this); omega
theorem exact_two (l : List Int) (hu : u16s l) (hn : l.length ≤ 2097152) (k i : Nat) (out : List Int) (h : i < l.length) (ho : out.length ≤ 16777216) (ht : two (l.drop i)) :
    units_FromExact.l0 (k + 3) l out (i : Int) = units_FromExact.l0 (k + 1) l (out ++ encP (rA (l.drop i))) ((i + 2 : Nat) : Int) := by
  have hl := two_lt _ ht; simp only [List.length_drop] at hl; (have hm : l.drop i ≠ [] := by simp; omega); have hum : u16s (l.drop i) := fun x hx => hu x (List.mem_of_mem_drop hx); have hr := rA_bd (l.drop i) hum hm; have b0 := u16_get l hu i h; have b1 := u16_get l hu (i + 1) (by omega); have ht' := (two_at l i).1 ht; have e1 : (i : Int) + 1 = ((i + 1 : Nat) : Int) := by omega
  have er : rA (l.drop i) = 65536 + (l.getD i (-1) - 55296) * 1024 + (l.getD (i + 1) (-1) - 56320) := by
    unfold rA; rw [if_pos ht, drop_getD, drop_getD]; rfl
  rw [exact_flag l hn (k + 2) i out h, units_FromExact.j1, if_pos (decide_eq_true ht), if_pos (by omega), if_pos (by omega), w64 (by omega) (by omega), e1, if_pos (by omega), if_pos (by omega), rd_eq l i (by omega), rd_eq l (i + 1) (by omega), join_f _ _ b0.1 b0.2 b1.1 b1.2, join_two _ _ ht'.1 ht'.2]; rw [Option.bind_some, ← er, append_f _ (by omega) _ (by omega) _ hr.1 hr.2]; rw [Option.bind_some, w64 (by omega) (by omega), show ((i + 1 : Nat) : Int) + 1 = ((i + 2 : Nat) : Int) by omega]
theorem exact_one (l : List Int) (hn : l.length ≤ 2097152) (k i : Nat) (out : List Int) (h : i < l.length) (hk : 40 ≤ k) (ho : out.length ≤ 16777216) (ht : ¬ two (l.drop i)) (hs : one (l.getD i (-1))) :
    units_FromExact.l0 (k + 3) l out (i : Int) = if joinsP 4 (l.drop i) [] = true then some ([], (i : Int), 31) else units_FromExact.l0 k l (out ++ [l.getD i (-1) - 56320]) ((i + 1 : Nat) : Int) := by
  (have e8 : l.getD i (-1) % 256 = l.getD i (-1) - 56320 := by unfold one at hs; omega); have ej := joins_f (k + 1) (l.drop i) (by simp; omega) (by omega); rw [exact_flag l hn (k + 2) i out h, units_FromExact.j1, if_neg (by simpa using ht), if_pos (decide_eq_true hs), if_pos (by omega), if_pos (by omega), Int.toNat_natCast, ej]; rw [Option.bind_some]; generalize joinsP 4 (l.drop i) [] = J; rw [units_FromExact.j2]
  cases J with
  | true => rfl
  | false => rw [if_neg (show ¬ (false = true) by decide), if_neg (show ¬ (false = true) by decide), if_pos (decide_eq_true hs), if_pos (by omega), e8, w64 (by omega) (by omega), show (i : Int) + 1 = ((i + 1 : Nat) : Int) by omega]
theorem exact_rest (l : List Int) (hu : u16s l) (hn : l.length ≤ 2097152) (k i : Nat) (out : List Int) (h : i < l.length) (hk : 40 ≤ k) (ho : out.length ≤ 16777216) (ht : ¬ two (l.drop i)) (hs : ¬ one (l.getD i (-1))) :
    units_FromExact.l0 (k + 3) l out (i : Int) = if half (l.drop i) then some ([], (i : Int), 30) else units_FromExact.l0 k l (out ++ encP (rA (l.drop i))) ((i + 1 : Nat) : Int) := by
  (have hm : l.drop i ≠ [] := by simp; omega); have hum : u16s (l.drop i) := fun x hx => hu x (List.mem_of_mem_drop hx); have hr := rA_bd (l.drop i) hum hm; have b0 := u16_get l hu i h; rw [exact_flag l hn (k + 2) i out h, units_FromExact.j1, if_neg (by simpa using ht), if_neg (by simpa using hs), units_FromExact.j2, if_neg (by decide), if_neg (by simpa using hs), if_pos (by omega), if_pos (by omega), rd_eq l i (by omega), high_f, low_f, Option.bind_some, Option.bind_some]; simp only [decide_eq_true_eq]; by_cases h1 : hi (l.getD i (-1)); · rw [if_pos h1, if_pos ((half_at l i).2 ⟨ht, .inl h1⟩)]
  · rw [if_neg h1]; by_cases h2 : lo (l.getD i (-1)); · rw [if_pos h2, if_pos ((half_at l i).2 ⟨ht, .inr h2⟩)]
    · rw [if_neg h2, if_neg (fun hh => ((half_at l i).1 hh).2.elim h1 h2)]
      have er : rA (l.drop i) = l.getD i (-1) := by
        unfold rA; rw [if_neg ht, drop_getD]; rfl
      rw [w32 (by omega) (by omega), ← er, append_f _ (by omega) _ (by omega) _ hr.1 hr.2]; rw [Option.bind_some, w64 (by omega) (by omega), show (i : Int) + 1 = ((i + 1 : Nat) : Int) by omega]
theorem exact_l0 (l : List Int) (hu : u16s l) (hn : l.length ≤ 2097152) : ∀ (f k i : Nat) (out : List Int), l.length - i ≤ f → i ≤ l.length → 3 * f + 50 ≤ k → out.length + 4 * f ≤ 16777216 →
    units_FromExact.l0 k l out (i : Int) = some (backP f (l.drop i) i out) := by
  intro f
  induction f with
  | zero =>
    intro k i out hd hi' hk ho; obtain ⟨k, rfl⟩ : ∃ m, k = m + 1 := ⟨k - 1, by omega⟩; rw [units_FromExact.l0, if_neg (by omega)]
    rfl
  | succ f ih =>
    intro k i out hd hi' hk ho; obtain ⟨k, rfl⟩ : ∃ m, k = m + 3 := ⟨k - 3, by omega⟩; by_cases h : i < l.length
    · (have hm : l.drop i ≠ [] := by simp; omega); have g0 : (l.drop i).getD 0 (-1) = l.getD i (-1) := drop_getD l i 0; have he := encP_len (rA (l.drop i)); rw [backP, if_neg hm, g0]; by_cases ht : two (l.drop i); · have hl := two_lt _ ht; simp only [List.length_drop] at hl; (have en : nA (l.drop i) = 2 := by unfold nA; rw [if_pos ht]); rw [exact_two l hu hn k i out h (by omega) ht, if_neg (fun hh => ((half_at l i).1 hh).1 ht), ih (k + 1) (i + 2) _ (by omega) (by omega) (by omega) (by simp; omega), en, List.drop_drop]
      · by_cases hs : one (l.getD i (-1)); · rw [exact_one l hn k i out h (by omega) (by omega) ht hs, if_pos (one_half (l.drop i) (g0.symm ▸ hs)), if_pos hs, ih k (i + 1) _ (by omega) (by omega) (by omega) (by simp; omega), List.drop_drop]; generalize joinsP 4 (l.drop i) [] = J; cases J <;> rfl
        · (have en : nA (l.drop i) = 1 := by unfold nA; rw [if_neg ht]); rw [exact_rest l hu hn k i out h (by omega) (by omega) ht hs, ih k (i + 1) _ (by omega) (by omega) (by omega) (by simp; omega), if_neg hs, en]; by_cases hh : half (l.drop i); · rw [if_pos hh, if_pos hh]
          · rw [if_neg hh, if_neg hh, List.drop_drop]
    · rw [units_FromExact.l0, if_neg (by omega), backP, if_pos (by simp; omega)]
theorem exact_f (k : Nat) (l : List Int) (hu : u16s l) (hn : l.length ≤ 2097152) (hk : 3 * l.length + 60 ≤ k) : units_FromExact.f k l = some (backP (l.length + 1) l 0 []) := by
  unfold units_FromExact.f; have := exact_l0 l hu hn (l.length + 1) k 0 [] (by omega) (by omega) (by omega) (by simp; omega); simpa using this
theorem refExact_l0 (l : List Int) (hu : u16s l) (hn : l.length ≤ 2097152) : ∀ (f k i : Nat) (out : List Int), l.length - i ≤ f → i ≤ l.length → f + 50 ≤ k → out.length + 4 * f ≤ 16777216 →
    galleyref03_FromExact.l0 k l out (i : Int) = some (backP f (l.drop i) i out) := by
  intro f
  induction f with
  | zero =>
    intro k i out hd hi' hk ho; obtain ⟨k, rfl⟩ : ∃ m, k = m + 1 := ⟨k - 1, by omega⟩; rw [galleyref03_FromExact.l0, if_neg (by omega)]
    rfl
  | succ f ih =>
    intro k i out hd hi' hk ho; obtain ⟨k, rfl⟩ : ∃ m, k = m + 1 := ⟨k - 1, by omega⟩; rw [galleyref03_FromExact.l0]; by_cases h : i < l.length
    · (have hm : l.drop i ≠ [] := by simp; omega); have hum : u16s (l.drop i) := fun x hx => hu x (List.mem_of_mem_drop hx); have hr := rA_bd (l.drop i) hum hm; have he := encP_len (rA (l.drop i)); have hna := nA_le (l.drop i) hm; simp only [List.length_drop] at hna; have g0 : (l.drop i).getD 0 (-1) = l.getD i (-1) := drop_getD l i 0; rw [if_pos (by omega), lone_f l hn i h, place_f l hu hn i h, backP, if_neg hm, g0, rd_eq l i h, ref_one_f, ref_joins_f k l hn i (by omega) (by omega)]; simp only [Option.bind_some, decide_eq_true_eq]; by_cases hh : half (l.drop i)
      · rw [if_pos hh, if_pos hh, if_pos (by omega)]; by_cases hs : one (l.getD i (-1))
        · have e8 : wrap64 (wrap64 (l.getD i (-1)) - 56320) % 256 = l.getD i (-1) - 56320 := by
            unfold one at hs; rw [w64 (x := l.getD i (-1)) (by omega) (by omega), w64 (by omega) (by omega)]; omega
          rw [if_pos hs, if_pos hs]; by_cases hj : joinsP 4 (l.drop i) [] = true; · rw [if_pos hj, if_pos hj]
          · rw [if_neg hj, if_neg hj, if_pos (by omega), e8, w64 (by omega) (by omega), show (i : Int) + 1 = ((i + 1 : Nat) : Int) by omega, ih k _ _ (by omega) (by omega) (by omega) (by simp; omega), List.drop_drop]
        · rw [if_neg hs, if_neg hs]
      · rw [if_neg hh, if_neg hh, bytes_f k (by omega) _ hr.1 hr.2]; simp only [Option.bind_some]; rw [if_pos (by omega), w64 (by omega) (by omega), show (i : Int) + ((nA (l.drop i) : Nat) : Int) = ((i + nA (l.drop i) : Nat) : Int) by omega, ih k _ _ (by omega) (by omega) (by omega) (by simp; omega), List.drop_drop]
    · rw [if_neg (by omega), backP, if_pos (by simp; omega)]
theorem ref_exact_f (k : Nat) (l : List Int) (hu : u16s l) (hn : l.length ≤ 2097152) (hk : l.length + 60 ≤ k) : galleyref03_FromExact.f k l = some (backP (l.length + 1) l 0 []) := by
  unfold galleyref03_FromExact.f; have := refExact_l0 l hu hn (l.length + 1) k 0 [] (by omega) (by omega) (by omega) (by simp; omega); simpa using this
end Go.Proofs.YtcdehlnkilcgaaaDoor.Pure
