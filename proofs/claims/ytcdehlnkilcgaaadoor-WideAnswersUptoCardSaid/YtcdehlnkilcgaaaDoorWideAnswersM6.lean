/- Plain: ToExact of the reference and of the program; strings of bytes. -/
import Derived.Test.YtcdehlnkilcgaaaDoorWideAnswersM5
import Derived.Laws.Strings2
namespace Go.Proofs.YtcdehlnkilcgaaaDoor.Pure
open Go.RowKit Go.Proofs.YtcdehlnkilcgaaaDoor.Q Go.Proofs.YtcdehlnkilcgaaaDoorW.PrintWords
theorem byte_inj {a b : Int} (ha : 0 ≤ a ∧ a ≤ 255) (hb : 0 ≤ b ∧ b ≤ 255) (h : UInt8.ofNat a.toNat = UInt8.ofNat b.toNat) : a = b := by
  have := congrArg UInt8.toNat h; (simp at this); omega
theorem bad_lng (m : List Int) (hb : bytes m) (h0 : m ≠ []) : ((run m == 65533) && (decide ((m.length : Int) < 3) || ((m.map (fun n => UInt8.ofNat n.toNat)).take 3 != [239, 191, 189]))) = decide (lng m = 0) := by
  by_cases hl : lng m = 0
  · rw [decide_eq_true hl]; (have hr : run m = 65533 := by unfold run; rw [hl]; rfl); rw [hr]; simp only [beq_self_eq_true, Bool.true_and]
    match m, hb with
    | [], _ => rfl
    | [x], _ => rfl
    | [x, y], _ => rfl
    | x :: y :: z :: r, hb =>
      have hx := hb x (by simp); have hy := hb y (by simp); have hz := hb z (by simp); rw [Bool.or_eq_true]; (right); rw [bne_iff_ne]; intro e; simp only [List.map_cons, List.take_succ_cons, List.take_zero, List.cons.injEq, and_true] at e; have e1 : x = 239 := byte_inj hx (by omega) e.1; have e2 : y = 191 := byte_inj hy (by omega) e.2.1; have e3 : z = 189 := byte_inj hz (by omega) e.2.2; subst e1 e2 e3; simp [lng, lng4, in3] at hl
  · rw [decide_eq_false hl]; by_cases hr : run m = 65533
    · have hx := getD_bytes m hb 0; have hy := getD_bytes m hb 1; have hz := getD_bytes m hb 2; have hw := getD_bytes m hb 3
      have key : m.getD 0 (-1) = 239 ∧ m.getD 1 (-1) = 191 ∧ m.getD 2 (-1) = 189 := by
        unfold run lng at hr; unfold lng at hl; generalize m.getD 0 (-1) = x at *; generalize m.getD 1 (-1) = y at *; generalize m.getD 2 (-1) = z at *; generalize m.getD 3 (-1) = w at *; obtain ⟨n, hn⟩ : ∃ n, n = lng4 x y z w := ⟨_, rfl⟩; rw [← hn] at hr hl; unfold lng4 in3 in4 at hn; repeat' split at hn
        all_goals
          subst hn; (simp [val4] at hr hl); try omega
      have l2 := getD_lt m 2 (by omega)
      match m, l2, key with
      | x :: y :: z :: r, _, key =>
        (simp at key); obtain ⟨rfl, rfl, rfl⟩ := key; rw [decide_eq_false (by simp; omega)]; simp
    · simp [hr]
theorem bt_str (l : List Int) (hb : bytes l) (p : Nat) (hp : p < l.length) : bt (strOfNums l) (p : Int) = (l.drop p).getD 0 (-1) := by
  have h := get_str l hb p hp; (have hs : p < (strOfNums l).size := by rw [strOfNums_size]; exact hp); (have e : (l.drop p).getD 0 (-1) = l.getD p (-1) := by simp [List.getD_eq_getElem?_getD, List.getElem?_drop]); rw [e, ← h]
  have e1 : (strOfNums l).get! p = (strOfNums l)[p] := by
    (simp [ByteArray.get!, getElem!_pos, hs]); rfl
  rw [e1]; simp [bt, hs]
theorem badAt_lng (l : List Int) (hb : bytes l) (p : Nat) (hp : p < l.length) : badAt (strOfNums l) p = decide (lng (l.drop p) = 0) := by
  have hbm : bytes (l.drop p) := fun x hx => hb x (List.mem_of_mem_drop hx); rw [← bad_lng (l.drop p) hbm (by simp; omega)]; unfold badAt; rw [decode_str l hb p hp, strOfNums_size]; have hr := run_bd (l.drop p) hbm; simp only [Int.toNat_of_nonneg hr.1]
  have e : ((strOfNums l).extract p (p + 3)).toList = ((l.drop p).map (fun n => UInt8.ofNat n.toNat)).take 3 := by
    unfold strOfNums; rw [ByteArray.extract_mk, ByteArray.toList_mk]; rw [show p + 3 - p = 3 by omega, List.map_drop]
  rw [e]; (congr 2); (simp); omega
theorem told_l0 (l : List Int) (hb : bytes l) : ∀ (d k p : Nat) (out : List Int), l.length - p ≤ d → p ≤ l.length → d + 2 ≤ k → out.length + 2 * d ≤ 33554432 →
    units_told.l0 k (strOfNums l) p out = some (out ++ (sufs d (l.drop p)).flatMap exact) := by
  intro d
  induction d with
  | zero =>
    intro k p out hd hp hk ho; obtain ⟨k, rfl⟩ : ∃ m, k = m + 1 := ⟨k - 1, by omega⟩; rw [units_told.l0, strOfNums_size, if_neg (by omega)]
    simp [sufs]
  | succ d ih =>
    intro k p out hd hp hk ho; obtain ⟨k, rfl⟩ : ∃ m, k = m + 1 := ⟨k - 1, by omega⟩; rw [units_told.l0, strOfNums_size, sufs]; by_cases h : p < l.length
    · have hbm : bytes (l.drop p) := fun x hx => hb x (List.mem_of_mem_drop hx); (have hne : l.drop p ≠ [] := by simp; omega); have hr := run_bd (l.drop p) hbm; have hw1 := wid_pos (l.drop p); have hw2 := wid_le (l.drop p) hne; simp only [List.length_drop] at hw2; rw [if_pos h, if_neg hne, badAt_lng l hb p h, decode_str l hb p h, split_f k (by omega)]; simp only [Int.toNat_of_nonneg hr.1, decide_eq_true_eq, Option.bind_some, List.drop_drop]
      have next : ∀ u : List Int, u.length ≤ 2 → units_told.l0 k (strOfNums l) (p + wid (l.drop p)) (out ++ u) = some ((out ++ u) ++ (sufs d (l.drop (p + wid (l.drop p)))).flatMap exact) := fun u hu =>
        ih k (p + wid (l.drop p)) (out ++ u) (by omega) (by omega) (by omega) (by simp; omega)
      rw [List.flatMap_cons]; by_cases hz : lng (l.drop p) = 0; · rw [if_pos hz, if_pos (by omega), bt_str l hb p h, next _ (by simp)]; simp [exact, hz]
      · rw [if_neg hz]; unfold splitP; by_cases h6 : 65535 < run (l.drop p) ∧ run (l.drop p) ≤ 1114111; · rw [if_pos h6]; simp only [if_true]; rw [if_pos (by omega), next _ (by simp)]; simp [exact, hz, unitsOf, h6]
        · rw [if_neg h6]; simp only [Bool.false_eq_true, if_false]; rw [if_pos (by omega), w16 (by omega) (by omega), next _ (by simp)]; simp [exact, hz, unitsOf, h6]
    · rw [if_neg h, if_pos (by simp; omega)]; simp
theorem toExact_f (k : Nat) (l : List Int) (hb : bytes l) (hn : l.length ≤ 8388608) (hk : l.length + 10 ≤ k) : units_ToExact.f k l = some ((sufs (l.length + 1) l).flatMap exact) := by
  unfold units_ToExact.f; rw [if_pos (by omega)]; have := told_l0 l hb (l.length + 1) k 0 [] (by omega) (by omega) (by omega) (by simp; omega); simpa using this
theorem refToExact_l0 (l : List Int) (hb : bytes l) (hn : l.length ≤ 1500000) : ∀ (f k p : Nat) (pre : List S61) (out : List Int), l.length - p ≤ f → p ≤ l.length → f + 3 ≤ k → out.length + 2 * f ≤ 4194304 → pre.length + f ≤ 2097152 →
    galleyref03_ToExact.l0 k l out (pre ++ (sufs f (l.drop p)).map stp) (p : Int) ((pre.length : Nat) : Int) = some (out ++ (sufs f (l.drop p)).flatMap exact) := by
  intro f
  induction f with
  | zero =>
    intro k p pre out hf hp hk ho hq; obtain ⟨k, rfl⟩ : ∃ m, k = m + 1 := ⟨k - 1, by omega⟩; rw [galleyref03_ToExact.l0, if_neg (by simp [sufs])]
    simp [sufs]
  | succ f ih =>
    intro k p pre out hf hp hk ho hq; obtain ⟨k, rfl⟩ : ∃ m, k = m + 1 := ⟨k - 1, by omega⟩; rw [galleyref03_ToExact.l0, sufs]; by_cases hz : l.drop p = []; · rw [if_pos hz, if_neg (by simp)]; simp
    · have hbm : bytes (l.drop p) := fun x hx => hb x (List.mem_of_mem_drop hx); have hr := run_bd (l.drop p) hbm; have hw1 := wid_pos (l.drop p); have hw2 := wid_le (l.drop p) hz; have hp' : 0 < (l.drop p).length := List.length_pos_iff.2 hz; simp only [List.length_drop] at hw2 hp'; have hx := getD_bytes l hb p
      have hx0 : 0 ≤ l.getD p (-1) := by
        have := hb l[p] (List.getElem_mem (by omega)); (simp [List.getD_eq_getElem?_getD, show p < l.length by omega]); omega
      rw [if_neg hz, if_pos (by simp only [List.length_append, List.map_cons, List.length_cons]; omega), if_pos (by omega), if_pos (by omega), if_pos (by omega), List.map_cons, rdT, rd_eq l p (by omega), w16 (x := l.getD p (-1)) (by omega) (by omega), w16 (by omega) (by omega), add_f k (by omega) out (by omega) _ _ (by exact hr.1) (by exact hr.2)]; simp only [Option.bind_some]
      have e : (if (stp (l.drop p)).f2 = true then unitsOf (stp (l.drop p)).f0 else [56320 + l.getD p (-1)]) = exact (l.drop p) := by
        unfold exact stp; (have e0 : (l.drop p).getD 0 (-1) = l.getD p (-1) := by simp [List.getD_eq_getElem?_getD, List.getElem?_drop]); rw [e0]; by_cases h : lng (l.drop p) = 0; · simp [h]
        · simp [h]
      have ew : (stp (l.drop p)).f1 = ((wid (l.drop p) : Nat) : Int) := rfl; rw [e, ew, w64 (by omega) (by omega), w64 (by omega) (by omega), List.drop_drop]; have hs := exact_len (l.drop p); have := ih k (p + wid (l.drop p)) (pre ++ [stp (l.drop p)]) (out ++ exact (l.drop p)) (by omega) (by omega) (by omega) (by simp; omega) (by simp; omega); rw [List.append_assoc, show (((pre ++ [stp (l.drop p)]).length : Nat) : Int) = ((pre.length : Nat) : Int) + 1 by simp, show ((p + wid (l.drop p) : Nat) : Int) = (p : Int) + ((wid (l.drop p) : Nat) : Int) by omega] at this; refine this.trans ?_; simp
theorem ref_toExact_f (k : Nat) (l : List Int) (hb : bytes l) (hn : l.length ≤ 1500000) (hk : l.length + 10 ≤ k) : galleyref03_ToExact.f k l = some ((sufs (l.length + 1) l).flatMap exact) := by
  unfold galleyref03_ToExact.f; rw [steps_f k l hb hn hk]; have := refToExact_l0 l hb hn (l.length + 1) k 0 [] [] (by omega) (by omega) (by omega) (by simp; omega) (by simp; omega); simpa using this
end Go.Proofs.YtcdehlnkilcgaaaDoor.Pure
