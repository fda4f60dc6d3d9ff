/- Plain: what From and FromExact take is told again as the units. -/
import Derived.Test.YtcdehlnkilcgaaaDoorWideBackM10
namespace Go.Proofs.YtcdehlnkilcgaaaDoor.Pure
open Go.RowKit Go.Proofs.YtcdehlnkilcgaaaDoor.Q Go.Proofs.YtcdehlnkilcgaaaDoorW.PrintWords
theorem enc_ne (r : Int) : encP r ≠ [] := by
  have := (encP_len r).1; intro e; rw [e] at this; simp at this
theorem tells_enc (r : Int) (hs : scalar r) (c : List Int) : tells seen (encP r ++ c) = unitsOf r ++ tells seen c ∧ tells exact (encP r ++ c) = unitsOf r ++ tells exact c := by
  obtain ⟨h1, h2⟩ := run_enc r hs c; have hl := (encP_len r).1; (have hg : lng (encP r ++ c) ≠ 0 := by omega); (have hd : (encP r ++ c).drop (wid (encP r ++ c)) = c := by rw [wid_good _ hg, h1, List.drop_left]); constructor; · rw [tells_step seen _ (by simp [enc_ne]), hd]; unfold seen; rw [h2]
  · rw [tells_step exact _ (by simp [enc_ne]), hd, exact_good _ hg, h2]
/-- A place that is no half: its rune is a scalar value, and these are its units. -/
theorem rA_scalar (m : List Int) (hu : u16s m) (hm : m ≠ []) (h : ¬ half m) : scalar (rA m) ∧ unitsOf (rA m) = m.take (nA m) := by
  have hp := List.length_pos_iff.2 hm; have h0 := u16_get m hu 0 hp; by_cases ht : two m
  · have hl := two_lt m ht; (have e : rA m = 65536 + (m.getD 0 (-1) - 55296) * 1024 + (m.getD 1 (-1) - 56320) := by unfold rA; rw [if_pos ht]); (have en : nA m = 2 := by unfold nA; rw [if_pos ht]); have ht' := ht; unfold two hi lo at ht'; rw [e, en, take2 m hl]; refine ⟨by unfold scalar; omega, ?_⟩; unfold unitsOf; rw [if_pos (by omega)]; congr 1
    · omega
    · (congr 1); omega
  · (have e : rA m = m.getD 0 (-1) := by unfold rA; rw [if_neg ht]); (have en : nA m = 1 := by unfold nA; rw [if_neg ht]); have hh : ¬ (hi (m.getD 0 (-1)) ∨ lo (m.getD 0 (-1))) := fun hx => h ⟨ht, hx⟩; unfold hi lo at hh; rw [e, en, take1 m hp]; refine ⟨by unfold scalar; omega, ?_⟩; unfold unitsOf; rw [if_neg (by omega)]
theorem bytes_app {a b : List Int} (ha : bytes a) (hb : bytes b) : bytes (a ++ b) := by
  intro x hx; rcases List.mem_append.1 hx with h | h
  · exact ha x h
  · exact hb x h
theorem enc_le (m : List Int) (hm : m ≠ []) : (encP (rA m)).length ≤ 4 * nA m := by
  have h1 := (encP_len (rA m)).2; have := (nA_le m hm).1; omega
/-- What From takes. -/
theorem from_ok : ∀ (f : Nat) (m : List Int) (i : Nat) (out : List Int), m.length ≤ f → u16s m → (fromP f m i out).2.2 = 0 →
    ∃ c, fromP f m i out = (out ++ c, 0, 0) ∧ backP f m i out = (out ++ c, 0, 0) ∧ bytes c ∧ tells seen c = m ∧ tells exact c = m ∧ c.length ≤ 4 * m.length := by
  intro f
  induction f with
  | zero =>
    intro m i out hf _ _; have : m = [] := List.eq_nil_of_length_eq_zero (by omega); subst this
    exact ⟨[], by simp [fromP], by simp [backP], fun x hx => by simp at hx, tells_nil _, tells_nil _, by simp⟩
  | succ f ih =>
    intro m i out hf hu he; by_cases hm : m = []; · subst hm; exact ⟨[], by simp [fromP], by simp [backP], fun x hx => by simp at hx, tells_nil _, tells_nil _, by simp⟩
    · rw [fromP, if_neg hm] at he ⊢; by_cases hh : half m; · rw [if_pos hh] at he; exact absurd he (by simp)
      · rw [if_neg hh] at he ⊢; rw [backP, if_neg hm, if_neg hh]; have hn := nA_le m hm; obtain ⟨hs, hu2⟩ := rA_scalar m hu hm hh; obtain ⟨c, e1, e2, e3, e4, e5, e6⟩ := ih (m.drop (nA m)) _ _ (by simp; omega) (fun x hx => hu x (List.mem_of_mem_drop hx)) he; have ht := tells_enc (rA m) hs c; have hle := enc_le m hm; refine ⟨encP (rA m) ++ c, ?_, ?_, bytes_app (enc_bytes _ hs.1 hs.2.1) e3, ?_, ?_, ?_⟩; · rw [e1, List.append_assoc]
        · rw [e2, List.append_assoc]
        · rw [ht.1, e4, hu2, List.take_append_drop]
        · rw [ht.2, e5, hu2, List.take_append_drop]
        · simp only [List.length_append, List.length_drop] at e6 ⊢; omega
/-- Bytes that go on make byte units that join. -/
theorem joins_yes : ∀ (d : Nat) (c b : List Int) (n : Nat), bytes c → 1 ≤ n → n ≤ d → n ≤ c.length → wholeP (b ++ c.take n) → (∀ j, j < n → 128 ≤ c.getD j (-1) ∧ c.getD j (-1) ≤ 191) → joinsP d (tells exact c) b = true := by
  intro d
  induction d with
  | zero => intro c b n _ h1 h2; omega
  | succ d ih =>
    intro c b n hb h1 h2 h3 hw hc
    have hm : c ≠ [] := by
      intro e; subst e; (simp at h3); omega
    have hl : lng c = 0 := lng_cont c (hc 0 (by omega)); rw [joinsP, if_neg (tells_ne c hm), if_pos ((head_one c hb hm).2 hl), tells_step exact c hm, exact_bad c hl, wid_bad c hl]; simp only [List.cons_append, List.getD_cons_zero, List.nil_append, List.drop_succ_cons, List.drop_zero]; rw [show 56320 + c.getD 0 (-1) - 56320 = c.getD 0 (-1) by omega]; have e := take1 c (by omega); by_cases hx : wholeP (b ++ [c.getD 0 (-1)]); · rw [if_pos hx]
    · rw [if_neg hx]
      have hn : n ≠ 1 := by
        intro hn; subst hn; rw [e] at hw; exact hx hw
      refine ih (c.drop 1) _ (n - 1) (fun x hx => hb x (List.mem_of_mem_drop hx)) (by omega) (by omega) (by simp; omega) ?_ ?_; · rw [← e, List.append_assoc]; rw [show c.take n = c.take 1 ++ (c.drop 1).take (n - 1) by rw [← List.take_add, show 1 + (n - 1) = n by omega]] at hw; exact hw
      · intro j hj; rw [drop_getD]; exact hc (1 + j) (by omega)
theorem getD_cons' (x : Int) (c : List Int) (j : Nat) (h : 0 < j) : (x :: c).getD j (-1) = c.getD (j - 1) (-1) := by
  obtain ⟨i, rfl⟩ : ∃ i, j = i + 1 := ⟨j - 1, by omega⟩; simp
/-- What FromExact takes. -/
theorem back_ok : ∀ (f : Nat) (m : List Int) (i : Nat) (out : List Int), m.length ≤ f → u16s m → (backP f m i out).2.2 = 0 →
    ∃ c, backP f m i out = (out ++ c, 0, 0) ∧ bytes c ∧ tells exact c = m ∧ c.length ≤ 4 * m.length := by
  intro f
  induction f with
  | zero =>
    intro m i out hf _ _; have : m = [] := List.eq_nil_of_length_eq_zero (by omega); subst this
    exact ⟨[], by simp [backP], fun x hx => by simp at hx, tells_nil _, by simp⟩
  | succ f ih =>
    intro m i out hf hu he; by_cases hm : m = []; · subst hm; exact ⟨[], by simp [backP], fun x hx => by simp at hx, tells_nil _, by simp⟩
    · rw [backP, if_neg hm] at he ⊢; have hp := List.length_pos_iff.2 hm; by_cases hh : half m
      · rw [if_pos hh] at he ⊢; by_cases h1 : one (m.getD 0 (-1))
        · rw [if_pos h1] at he ⊢
          cases hj : joinsP 4 m [] with
          | true =>
            rw [hj, if_pos rfl] at he
            exact absurd he (by simp)
          | false =>
            rw [hj, if_neg (by decide)] at he; rw [if_neg (by decide)]; obtain ⟨c, e1, e3, e5, e6⟩ := ih (m.drop 1) _ _ (by simp; omega) (fun x hx => hu x (List.mem_of_mem_drop hx)) he; have h1' := h1; unfold one at h1'
            have hb : bytes ((m.getD 0 (-1) - 56320) :: c) := by
              intro x hx; rcases List.mem_cons.1 hx with hx | hx
              · omega
              · exact e3 x hx
            have hz : lng ((m.getD 0 (-1) - 56320) :: c) = 0 := by
              by_cases hz : lng ((m.getD 0 (-1) - 56320) :: c) = 0; · exact hz
              · (exfalso); obtain ⟨n, hn⟩ : ∃ n, n = lng ((m.getD 0 (-1) - 56320) :: c) := ⟨_, rfl⟩; have hw := lng_whole _ hz; have hl := lng_le ((m.getD 0 (-1) - 56320) :: c); have h4 := lng_le4 ((m.getD 0 (-1) - 56320) :: c); have hc := lng_tail ((m.getD 0 (-1) - 56320) :: c); rw [← hn] at hw hl h4 hz hc; simp only [List.length_cons] at hl
                have hn1 : n ≠ 1 := by
                  intro e; subst e; rw [take1 _ (by simp)] at hw; have := (whole1 (m.getD 0 (-1) - 56320) (by omega)).1 hw; omega
                have hn1' : ¬ wholeP ([] ++ [m.getD 0 (-1) - 56320]) := by
                  intro hx; have := (whole1 (m.getD 0 (-1) - 56320) (by omega)).1 hx; omega
                rw [joinsP, if_neg hm, if_pos h1, if_neg hn1', ← e5] at hj
                have := joins_yes 3 c ([] ++ [m.getD 0 (-1) - 56320]) (n - 1) e3 (by omega) (by omega) (by omega) (by
                  obtain ⟨q, rfl⟩ : ∃ q, n = q + 1 := ⟨n - 1, by omega⟩; rw [List.take_succ_cons] at hw
                  exact hw) (by
                  intro j hj; have := hc (j + 1) (by omega) (by omega); rw [getD_cons' _ _ _ (by omega)] at this
                  exact this)
                rw [this] at hj; exact absurd hj (by decide)
            refine ⟨(m.getD 0 (-1) - 56320) :: c, ?_, hb, ?_, ?_⟩; · rw [e1, List.append_assoc]; rfl
            · rw [tells_step exact _ (by simp), exact_bad _ hz, wid_bad _ hz]; simp only [List.getD_cons_zero, List.drop_succ_cons, List.drop_zero]; rw [e5, show 56320 + (m.getD 0 (-1) - 56320) = m.getD 0 (-1) by omega, ← take1 m hp, List.take_append_drop]
            · simp only [List.length_cons, List.length_drop] at e6 ⊢; omega
        · rw [if_neg h1] at he; exact absurd he (by simp)
      · rw [if_neg hh] at he ⊢; have hn := nA_le m hm; obtain ⟨hs, hu2⟩ := rA_scalar m hu hm hh; obtain ⟨c, e1, e3, e5, e6⟩ := ih (m.drop (nA m)) _ _ (by simp; omega) (fun x hx => hu x (List.mem_of_mem_drop hx)) he; have ht := tells_enc (rA m) hs c; have hle := enc_le m hm; refine ⟨encP (rA m) ++ c, ?_, bytes_app (enc_bytes _ hs.1 hs.2.1) e3, ?_, ?_⟩; · rw [e1, List.append_assoc]
        · rw [ht.2, e5, hu2, List.take_append_drop]
        · simp only [List.length_append, List.length_drop] at e6 ⊢; omega
/-- Where they refuse. -/
theorem from_fail : ∀ (f : Nat) (m : List Int) (i : Nat) (out : List Int), (fromP f m i out).2.2 ≠ 0 → (fromP f m i out).1 = [] ∧ (i : Int) ≤ (fromP f m i out).2.1 ∧ (fromP f m i out).2.1 < ((i + m.length : Nat) : Int) := by
  intro f
  induction f with
  | zero => intro m i out h; exact absurd rfl h
  | succ f ih =>
    intro m i out h; by_cases hm : m = []; · rw [fromP, if_pos hm] at h; exact absurd rfl h
    · rw [fromP, if_neg hm] at h ⊢; have hp := List.length_pos_iff.2 hm; have hn := nA_le m hm; by_cases hh : half m; · rw [if_pos hh]; exact ⟨rfl, by simp, by simp; omega⟩
      · rw [if_neg hh] at h ⊢; have := ih _ _ _ h; simp only [List.length_drop] at this; exact ⟨this.1, by omega, by omega⟩
theorem back_fail : ∀ (f : Nat) (m : List Int) (i : Nat) (out : List Int), (backP f m i out).2.2 ≠ 0 → (backP f m i out).1 = [] ∧ (i : Int) ≤ (backP f m i out).2.1 ∧ (backP f m i out).2.1 < ((i + m.length : Nat) : Int) := by
  intro f
  induction f with
  | zero => intro m i out h; exact absurd rfl h
  | succ f ih =>
    intro m i out h; by_cases hm : m = []; · rw [backP, if_pos hm] at h; exact absurd rfl h
    · rw [backP, if_neg hm] at h ⊢; have hp := List.length_pos_iff.2 hm; have hn := nA_le m hm; by_cases hh : half m
      · rw [if_pos hh] at h ⊢; by_cases h1 : one (m.getD 0 (-1))
        · rw [if_pos h1] at h ⊢; by_cases hj : joinsP 4 m [] = true; · rw [if_pos hj]; exact ⟨rfl, by simp, by simp; omega⟩
          · rw [if_neg hj] at h ⊢; have := ih _ _ _ h; simp only [List.length_drop] at this; exact ⟨this.1, by omega, by omega⟩
        · rw [if_neg h1]; exact ⟨rfl, by simp, by simp; omega⟩
      · rw [if_neg hh] at h ⊢; have := ih _ _ _ h; simp only [List.length_drop] at this; exact ⟨this.1, by omega, by omega⟩
end Go.Proofs.YtcdehlnkilcgaaaDoor.Pure
