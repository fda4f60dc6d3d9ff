/- Plain: the reference's Edges and Steps are the beginnings of the steps, and the steps. -/
import Derived.Test.YtcdehlnkilcgaaaDoorWideAnswersM3
import Derived.Test.YtcdehlnkilcgaaaDoorWideAnswersQh
namespace Go.Proofs.YtcdehlnkilcgaaaDoor.Pure
open Go.RowKit Go.Proofs.YtcdehlnkilcgaaaDoor.Q Go.Proofs.YtcdehlnkilcgaaaDoorW.PrintWords
def insideB (l : List Int) (p : Nat) : Bool := decide (1 ≤ p ∧ 1 < lng (l.drop (p - 1))) || (decide (2 ≤ p ∧ 2 < lng (l.drop (p - 2))) || decide (3 ≤ p ∧ 3 < lng (l.drop (p - 3))))
theorem inside_f (k : Nat) (hk : 7 ≤ k) (l : List Int) (hb : bytes l) (p : Nat) (hp : p ≤ 1099511627776) : galleyref02_Inside.f k l (p : Int) = some (insideB l p) := by
  obtain ⟨k, rfl⟩ : ∃ m, k = m + 7 := ⟨k - 7, by omega⟩
  have step : ∀ (m j : Nat), 3 ≤ m → 1 ≤ j → j ≤ 3 → galleyref02_Inside.l0 (m + 1) l (p : Int) (j : Int) = if j ≤ p ∧ j < lng (l.drop (p - j)) then some true else galleyref02_Inside.l0 m l (p : Int) ((j + 1 : Nat) : Int) := by
    intro m j hm h1 h3; rw [galleyref02_Inside.l0, if_pos (by omega), w64 (by omega) (by omega), w64 (x := (j : Int) + 1) (by omega) (by omega)]; by_cases h : j ≤ p
    · rw [if_pos (by omega), show (p : Int) - (j : Int) = ((p - j : Nat) : Int) by omega, long_f m (by omega) l hb (p - j) (by omega)]; simp only [Option.bind_some]; by_cases h2 : j < lng (l.drop (p - j)); · rw [if_pos (by omega), if_pos ⟨h, h2⟩]
      · rw [if_neg (by omega), if_neg (fun e => h2 e.2)]; rfl
    · rw [if_neg (by omega), if_neg (fun e => h e.1)]; rfl
  unfold galleyref02_Inside.f; have s1 := step (k + 6) 1 (by omega) (by omega) (by omega); have s2 := step (k + 5) 2 (by omega) (by omega) (by omega); have s3 := step (k + 4) 3 (by omega) (by omega) (by omega)
  have s4 : galleyref02_Inside.l0 (k + 4) l (p : Int) ((3 + 1 : Nat) : Int) = some false := by
    rw [galleyref02_Inside.l0, if_neg (by omega)]
  have e1 : ((1 : Nat) : Int) = 1 := rfl; rw [e1] at s1; rw [s1, s2, s3, s4]; unfold insideB; by_cases h1 : 1 ≤ p ∧ 1 < lng (l.drop (p - 1)); · rw [if_pos h1, decide_eq_true h1]; rfl
  · rw [if_neg h1, decide_eq_false h1, Bool.false_or]; by_cases h2 : 2 ≤ p ∧ 2 < lng (l.drop (p - 2)); · rw [if_pos h2, decide_eq_true h2]; rfl
    · rw [if_neg h2, decide_eq_false h2, Bool.false_or]; by_cases h3 : 3 ≤ p ∧ 3 < lng (l.drop (p - 3)); · rw [if_pos h3, decide_eq_true h3]
      · rw [if_neg h3, decide_eq_false h3]
theorem insideB_iff (l : List Int) (p : Nat) : insideB l p = true ↔ ∃ j, 1 ≤ j ∧ j ≤ 3 ∧ j ≤ p ∧ j < lng (l.drop (p - j)) := by
  unfold insideB; simp only [Bool.or_eq_true, decide_eq_true_eq]; constructor
  · rintro (h | h | h); · exact ⟨1, by omega, by omega, h⟩
    · exact ⟨2, by omega, by omega, h⟩
    · exact ⟨3, by omega, by omega, h⟩
  · rintro ⟨j, h1, h3, h⟩
    match j, h1, h3 with
    | 1, _, _ => exact .inl h
    | 2, _, _ => exact .inr (.inl h)
    | 3, _, _ => exact .inr (.inr h)
theorem inside_zero (l : List Int) : insideB l 0 = false := by
  cases h : insideB l 0 with
  | false => rfl
  | true =>
    obtain ⟨j, h1, _, h3, _⟩ := (insideB_iff l 0).1 h; omega
theorem inside_mid (l : List Int) (p q : Nat) (h : p < q) (h' : q < p + wid (l.drop p)) : insideB l q = true := by
  refine (insideB_iff l q).2 ⟨q - p, by omega, ?_, by omega, ?_⟩; · have := lng_le4 (l.drop p); unfold wid at h'; split at h' <;> omega
  · rw [show q - (q - p) = p by omega]; unfold wid at h'; split at h' <;> omega
theorem inside_next (l : List Int) (p : Nat) (h : insideB l p = false) : insideB l (p + wid (l.drop p)) = false := by
  cases hq : insideB l (p + wid (l.drop p)) with
  | false => rfl
  | true =>
    (exfalso); obtain ⟨j, h1, h3, hj, hl⟩ := (insideB_iff l _).1 hq; have hw : wid (l.drop p) = if lng (l.drop p) = 0 then 1 else lng (l.drop p) := rfl; rcases Nat.lt_trichotomy (p + wid (l.drop p) - j) p with hlt | heq | hgt
    · have : insideB l p = true := (insideB_iff l p).2 ⟨p - (p + wid (l.drop p) - j), by omega, by omega, by omega, by
        rw [show p - (p - (p + wid (l.drop p) - j)) = p + wid (l.drop p) - j by omega]
        omega⟩
      rw [h] at this; cases this
    · rw [heq] at hl; split at hw <;> omega
    · have ht := lng_tail (l.drop p) (p + wid (l.drop p) - j - p) (by omega) (by split at hw <;> omega)
      have e : (l.drop p).getD (p + wid (l.drop p) - j - p) (-1) = (l.drop (p + wid (l.drop p) - j)).getD 0 (-1) := by
        simp only [List.getD_eq_getElem?_getD, List.getElem?_drop]; (congr 2); omega
      rw [e] at ht; have := lng_cont _ ht; omega
/-- Where the steps of the rest begin, and the end. -/
def posF : Nat → List Int → Nat → List Int
  | 0, _, p => [(p : Int)]
  | f + 1, l, p => if l = [] then [(p : Int)] else (p : Int) :: posF f (l.drop (wid l)) (p + wid l)
theorem wid_pos (l : List Int) : 1 ≤ wid l := by
  unfold wid; split <;> omega
theorem wid_le4 (l : List Int) : wid l ≤ 4 := by
  have := lng_le4 l; unfold wid; split <;> omega
theorem wid_le (l : List Int) (h : l ≠ []) : wid l ≤ l.length := by
  have := lng_le l; have : 0 < l.length := List.length_pos_iff.2 h; unfold wid; split <;> omega
/-- The edges from a place on. -/
theorem edges_l0 (l : List Int) (hb : bytes l) (hn : l.length ≤ 1500000) : ∀ (d k p : Nat) (out : List Int), l.length + 1 - p = d → p ≤ l.length → insideB l p = false → d + 8 ≤ k → out.length + d ≤ 2097152 →
    galleyref02_Edges.l0 k l out (p : Int) = some (out ++ posF d (l.drop p) p) := by
  intro d
  induction d using Nat.strongRecOn with
  | _ d ih =>
    intro k p out hd hp he hk ho; obtain ⟨d, rfl⟩ : ∃ m, d = m + 1 := ⟨d - 1, by omega⟩; obtain ⟨k, rfl⟩ : ∃ m, k = m + 1 := ⟨k - 1, by omega⟩; rw [galleyref02_Edges.l0, if_pos (by omega), inside_f k (by omega) l hb p (by omega), he, w64 (by omega) (by omega)]; simp only [Option.bind_some, Bool.false_eq_true, if_false]; rw [if_pos (by omega), show (p : Int) + 1 = ((p + 1 : Nat) : Int) by omega]; rw [posF]; by_cases hz : l.drop p = []
    · rw [if_pos hz]
      have : p = l.length := by
        have := congrArg List.length hz; (simp at this); omega
      obtain ⟨k, rfl⟩ : ∃ m, k = m + 1 := ⟨k - 1, by omega⟩; rw [galleyref02_Edges.l0, if_neg (by omega)]
    · rw [if_neg hz]; have hw1 := wid_pos (l.drop p); have hw2 := wid_le (l.drop p) hz; have hw4 := wid_le4 (l.drop p); simp only [List.length_drop] at hw2
      -- over the places inside
      have over : ∀ (c : Nat) (k q : Nat), p + wid (l.drop p) - q = c → p < q → q ≤ p + wid (l.drop p) → d + 8 - (q - p - 1) ≤ k →
          galleyref02_Edges.l0 k l (out ++ [(p : Int)]) (q : Int) = some ((out ++ [(p : Int)]) ++ posF (l.length + 1 - (p + wid (l.drop p))) (l.drop (p + wid (l.drop p))) (p + wid (l.drop p))) := by
        intro c
        induction c with
        | zero =>
          intro k q hc hq hq' hk; obtain rfl : q = p + wid (l.drop p) := by omega
          exact ih _ (by omega) k _ _ rfl (by omega) (inside_next l p he) (by omega) (by simp; omega)
        | succ c ihc =>
          intro k q hc hq hq' hk; obtain ⟨k, rfl⟩ : ∃ m, k = m + 1 := ⟨k - 1, by omega⟩; rw [galleyref02_Edges.l0, if_pos (by omega), inside_f k (by omega) l hb q (by omega), inside_mid l p q hq (by omega), w64 (by omega) (by omega)]; simp only [Option.bind_some, if_true]; rw [show (q : Int) + 1 = ((q + 1 : Nat) : Int) by omega]; exact ihc k (q + 1) (by omega) (by omega) (by omega) (by omega)
      rw [over _ k (p + 1) rfl (by omega) (by omega) (by omega)]
      have hf : ∀ (f g : Nat) (m : List Int) (q : Nat), m.length ≤ f → m.length ≤ g → posF f m q = posF g m q := by
        intro f
        induction f with
        | zero =>
          intro g m q h1 h2; have : m = [] := List.eq_nil_of_length_eq_zero (by omega); subst this
          cases g <;> simp [posF]
        | succ f ihf =>
          intro g m q h1 h2
          cases g with
          | zero =>
            have : m = [] := List.eq_nil_of_length_eq_zero (by omega); subst this
            simp [posF]
          | succ g =>
            rw [posF, posF]; by_cases hm : m = []; · rw [if_pos hm, if_pos hm]
            · rw [if_neg hm, if_neg hm]; have := wid_pos m; have := List.length_pos_iff.2 hm; rw [ihf g _ _ (by simp; omega) (by simp; omega)]
      rw [List.drop_drop, hf d (l.length + 1 - (p + wid (l.drop p))) (l.drop (p + wid (l.drop p))) _ (by simp; omega) (by simp; omega)]; simp
theorem edges_f (k : Nat) (l : List Int) (hb : bytes l) (hn : l.length ≤ 1500000) (hk : l.length + 9 ≤ k) : galleyref02_Edges.f k l = some (posF (l.length + 1) l 0) := by
  unfold galleyref02_Edges.f; have := edges_l0 l hb hn (l.length + 1) k 0 [] (by omega) (by omega) (inside_zero l) (by omega) (by simp; omega); simpa using this
def stp (l : List Int) : S61 := ⟨run l, (wid l : Nat), decide (lng l ≠ 0)⟩
/-- The rests of the text that its steps begin. -/
def sufs : Nat → List Int → List (List Int)
  | 0, _ => []
  | f + 1, l => if l = [] then [] else l :: sufs f (l.drop (wid l))
theorem mod_t {x : Int} (h : 0 ≤ x) (m : Int) : Int.tmod x m = x % m := Int.tmod_eq_emod_of_nonneg h
theorem of_f (k : Nat) (hk : 8 ≤ k) (l : List Int) (hb : bytes l) (p : Nat) (hp : p < l.length) (hn : l.length ≤ 1500000) : galleyref02_Of.f k l (p : Int) = some (run (l.drop p), ((wid (l.drop p) : Nat) : Int), decide (lng (l.drop p) ≠ 0)) := by
  obtain ⟨k, rfl⟩ : ∃ m, k = m + 8 := ⟨k - 8, by omega⟩; (have hd : ∀ j, (l.drop p).getD j (-1) = l.getD (p + j) (-1) := fun j => by simp [List.getD_eq_getElem?_getD, List.getElem?_drop]); have hr : ∀ j, p + j < l.length → rd l ((p + j : Nat) : Int) = (l.drop p).getD j (-1) := fun j hj => by rw [hd, rd_eq l _ hj]
  have hbd : ∀ j, p + j < l.length → 0 ≤ (l.drop p).getD j (-1) ∧ (l.drop p).getD j (-1) ≤ 255 := fun j hj => by
    rw [hd]; have := hb l[p + j] (List.getElem_mem hj); simpa [List.getD_eq_getElem?_getD, hj] using this
  have hle := lng_le (l.drop p); have hle4 := lng_le4 (l.drop p); simp only [List.length_drop] at hle; unfold galleyref02_Of.f; rw [long_f (k + 8) (by omega) l hb p (by omega)]; simp only [Option.bind_some]; have hrun : run (l.drop p) = val4 (lng (l.drop p)) ((l.drop p).getD 0 (-1)) ((l.drop p).getD 1 (-1)) ((l.drop p).getD 2 (-1)) ((l.drop p).getD 3 (-1)) := rfl; have hwid : wid (l.drop p) = if lng (l.drop p) = 0 then 1 else lng (l.drop p) := rfl; rw [hrun, hwid]; have b0 := hbd 0 (by omega); have e0 := hr 0 (by omega); simp only [Nat.add_zero] at e0; rw [e0]; have r1 := hr 1; have r2 := hr 2; have r3 := hr 3; have b1 := hbd 1; have b2 := hbd 2; have b3 := hbd 3; clear hr hbd hd hrun hwid e0 hb; generalize lng (l.drop p) = n at *; generalize (l.drop p).getD 0 (-1) = x at *; generalize (l.drop p).getD 1 (-1) = y at *; generalize (l.drop p).getD 2 (-1) = z at *; generalize (l.drop p).getD 3 (-1) = w at *
  have st : ∀ (m j n : Nat) (r b : Int), j < n → p + j < l.length → rd l ((p + j : Nat) : Int) = b → 0 ≤ b → b ≤ 255 → 0 ≤ r → r ≤ 1048576 → galleyref02_Of.l0 (m + 1) l (p : Int) (n : Int) r (j : Int) = galleyref02_Of.l0 m l (p : Int) (n : Int) (r * 64 + b % 64) ((j + 1 : Nat) : Int) := by
    intro m j n r b h1 h2 h3 h4 h5 h6 h7; rw [galleyref02_Of.l0, if_pos (by omega), w64 (x := (p : Int) + (j : Int)) (by omega) (by omega), if_pos (by omega), if_pos (by omega), show (p : Int) + (j : Int) = ((p + j : Nat) : Int) by omega, h3, w64 (x := b) (by omega) (by omega), mod_t h4, w64 (x := r * 64) (by omega) (by omega), w64 (by omega) (by omega), w64 (by omega) (by omega)]; rfl
  have en : ∀ (m n : Nat) (r : Int), 0 ≤ r → r ≤ 2147483647 → galleyref02_Of.l0 (m + 1) l (p : Int) (n : Int) r (n : Int) = some (r, (n : Int), true) := by
    intro m n r h1 h2; rw [galleyref02_Of.l0, if_neg (by omega), w32 (by omega) (by omega)]
  have e1 : ((1 : Nat) : Int) = 1 := rfl
  match n, hle4 with
  | 0, _ => rfl
  | 1, _ =>
    rw [if_neg (by decide), if_pos (by omega), if_pos (by omega), if_neg (by decide), if_neg (by decide), if_neg (by decide), galleyref02_Of.j0, w64 (by omega) (by omega)]; have := en (k + 6) 1 x (by omega) (by omega); rw [e1] at this; rw [e1, this]
    simp [val4]
  | 2, _ =>
    have b1 := b1 (by omega); rw [if_neg (by decide), if_pos (by omega), if_pos (by omega), if_pos (by decide), galleyref02_Of.j0, w64 (by omega) (by omega), mod_t (by omega)]; have s1 := st (k + 6) 1 2 (x % 32) y (by omega) (by omega) (r1 (by omega)) b1.1 b1.2 (by omega) (by omega); rw [e1] at s1; rw [s1, en (k + 5) 2 _ (by omega) (by omega)]
    simp [val4]
  | 3, _ =>
    have b1 := b1 (by omega); have b2 := b2 (by omega); rw [if_neg (by decide), if_pos (by omega), if_pos (by omega), if_neg (by decide), if_pos (by decide), galleyref02_Of.j0, w64 (by omega) (by omega), mod_t (by omega)]; have s1 := st (k + 6) 1 3 (x % 16) y (by omega) (by omega) (r1 (by omega)) b1.1 b1.2 (by omega) (by omega); have s2 := st (k + 5) 2 3 (x % 16 * 64 + y % 64) z (by omega) (by omega) (r2 (by omega)) b2.1 b2.2 (by omega) (by omega); rw [e1] at s1; rw [s1, s2, en (k + 4) 3 _ (by omega) (by omega)]
    simp [val4]
  | 4, _ =>
    have b1 := b1 (by omega); have b2 := b2 (by omega); have b3 := b3 (by omega); rw [if_neg (by decide), if_pos (by omega), if_pos (by omega), if_neg (by decide), if_neg (by decide), if_pos (by decide), galleyref02_Of.j0, w64 (by omega) (by omega), mod_t (by omega)]; have s1 := st (k + 6) 1 4 (x % 8) y (by omega) (by omega) (r1 (by omega)) b1.1 b1.2 (by omega) (by omega); have s2 := st (k + 5) 2 4 (x % 8 * 64 + y % 64) z (by omega) (by omega) (r2 (by omega)) b2.1 b2.2 (by omega) (by omega); have s3 := st (k + 4) 3 4 ((x % 8 * 64 + y % 64) * 64 + z % 64) w (by omega) (by omega) (r3 (by omega)) b3.1 b3.2 (by omega) (by omega); rw [e1] at s1; rw [s1, s2, s3, en (k + 3) 4 _ (by omega) (by omega)]; simp [val4]
end Go.Proofs.YtcdehlnkilcgaaaDoor.Pure
