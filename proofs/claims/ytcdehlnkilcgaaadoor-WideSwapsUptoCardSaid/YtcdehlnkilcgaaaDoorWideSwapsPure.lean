/- The law WideSwaps, over numbers alone. -/
import Derived.Test.YtcdehlnkilcgaaaDoorWideSwapsM15
import Derived.Test.YtcdehlnkilcgaaaDoorWideSwapsQ
namespace Go.Proofs.YtcdehlnkilcgaaaDoor.Pure
open Go.RowKit Go.Proofs.YtcdehlnkilcgaaaDoor.Q Go.Proofs.YtcdehlnkilcgaaaDoorW.PrintWords
theorem own32_f (l : List Int) (h : l.length ≤ 16777216) : galleylaw32_own.f l = some l := by
  unfold galleylaw32_own.f; (simp); omega
theorem enc_len2 (l : List Int) (big bom ex : Bool) : (encB l big bom ex).length ≤ 4 * l.length + 2 := by
  have := text_len ex l; unfold encB; rw [List.length_append, wr_len]; split
  · rw [pair_len]; omega
  · simp; omega
theorem enc_bytes2 (l : List Int) (big bom ex : Bool) (hb : bytes l) : bytes (encB l big bom ex) := by
  unfold encB; refine fun x hx => ?_; rcases List.mem_append.1 hx with h | h
  · split at h
    · unfold pairB at h; split at h
      all_goals
        simp only [List.mem_cons, List.not_mem_nil, or_false] at h; omega
    · cases h
  · exact wr_bytes big _ (text_u16 ex l hb) x h
theorem exact_seen_len (m : List Int) : (seen m).length = (exact m).length := by
  by_cases h : lng m = 0; · rw [exact_bad m h]; unfold seen; rw [run_bad m h]; rfl
  · rw [exact_good m h]; rfl
theorem same_len : ∀ (f : Nat) (m : List Int), m.length ≤ f → (tells seen m).length = (tells exact m).length := by
  intro f
  induction f with
  | zero =>
    intro m hf; have : m = [] := List.eq_nil_of_length_eq_zero (by omega); subst this
    rw [tells_nil, tells_nil]
  | succ f ih =>
    intro m hf; by_cases hm : m = []; · subst hm; rw [tells_nil, tells_nil]
    · have hw := wid_pos m; have hl := List.length_pos_iff.2 hm; rw [tells_step seen m hm, tells_step exact m hm, List.length_append, List.length_append, exact_seen_len, ih _ (by simp; omega)]
theorem text_same (ex : Bool) (l : List Int) : (textU ex l).length = (tells seen l).length := by
  unfold textU; split
  · exact (same_len _ l (Nat.le_refl _)).symm
  · rfl
theorem guess_mark (big : Bool) (r : List Int) : gueB (pairB big 65279 ++ r) = (big, true) := by
  cases big <;> simp [gueB, pairB]
theorem swaps_l0 (l0 : List Int) (a1 : Bool) (x5 x6 : List Int) (h0 : l0.length ≤ 1048576) (hb : bytes l0) (h5 : x5.length = 2 * (tells seen l0).length) (h6 : x6.length = 2 * (tells seen l0).length) : ∀ (d k : Nat) (x9 : Int), 0 ≤ x9 → x9 + d = 2 → d + 10 * l0.length + 150 ≤ k →
    galleylaw32_WideSwaps.l0 k l0 a1 x5 x6 x9 = some true := by
  intro d
  induction d with
  | zero =>
    intro k x9 h1 h2 hk; obtain ⟨k, rfl⟩ : ∃ m, k = m + 1 := ⟨k - 1, by omega⟩; have hx : units_To.f k l0 = some (tells seen l0) := to_f k l0 hb (by omega) (by omega); have hl := tells_len seen seen_len l0; rw [galleylaw32_WideSwaps.l0, if_neg (by omega), own32_f l0 (by omega), Option.bind_some, hx, Option.bind_some, w64 (by omega) (by omega), if_pos (by omega), h6]
    simp
  | succ d ih =>
    intro k x9 h1 h2 hk; obtain ⟨k, rfl⟩ : ∃ m, k = m + 1 := ⟨k - 1, by omega⟩; have hl := enc_len2 l0 (x9 == 1) true a1; (have e : encB l0 (x9 == 1) true a1 = pairB (x9 == 1) 65279 ++ wr (x9 == 1) (textU a1 l0) := by unfold encB; rw [if_pos rfl]); (have e0 : encB l0 (x9 == 1) false a1 = wr (x9 == 1) (textU a1 l0) := by unfold encB; rw [if_neg (by decide)]; rfl); have hp := pair_len (x9 == 1) 65279
    have hlen : 2 ≤ (encB l0 (x9 == 1) true a1).length := by
      rw [e, List.length_append, hp]; omega
    have hd : (encB l0 (x9 == 1) true a1).drop 2 = encB l0 (x9 == 1) false a1 := by
      rw [e, e0, ← hp, List.drop_left]
    (have hg : gueB (encB l0 (x9 == 1) true a1) = ((x9 == 1), true) := by rw [e]; exact guess_mark _ _); rw [galleylaw32_WideSwaps.l0, if_pos (by omega), own32_f l0 (by omega), Option.bind_some, encode_f k l0 (x9 == 1) true a1 hb (by omega) (by omega), Option.bind_some, own32_f (encB l0 (x9 == 1) true a1) (by omega), Option.bind_some, guess_f _ (enc_bytes2 l0 _ _ _ hb), Option.bind_some, hg, if_neg (by omega), if_pos rfl, if_neg (by simp), if_pos (by omega), Option.bind_some, encode_f k l0 (x9 == 1) false a1 hb (by omega) (by omega), Option.bind_some, hd, if_pos rfl, w64 (by omega) (by omega)]; exact ih k (x9 + 1) (by omega) (by omega) (by omega)
theorem WideSwaps (l0 : List Int) (a1 : Bool) (h0 : l0.length ≤ 1048576) (hb : ∀ x ∈ l0, 0 ≤ x ∧ x ≤ 255) : ∃ k, galleylaw32_WideSwaps.f k l0 a1 = some true := by
  refine ⟨20 * l0.length + 300, ?_⟩; obtain ⟨k, hk⟩ : ∃ k, 20 * l0.length + 300 = k + 1 := ⟨20 * l0.length + 299, by omega⟩; rw [hk]; have hw : galleylaw32_awake.f (k + 1) = some true := at_rounds galleylaw32_awake.mono (by omega) (show galleylaw32_awake.f 40 = some true by kernel_rfl); (have e1 : encB l0 false false a1 = wr false (textU a1 l0) := by unfold encB; rw [if_neg (by decide)]; rfl); (have e2 : encB l0 true false a1 = wr true (textU a1 l0) := by unfold encB; rw [if_neg (by decide)]; rfl); have l1 := wr_len false (textU a1 l0); have l2 := wr_len true (textU a1 l0); have l3 := text_len a1 l0
  have hs : swapW (wr false (textU a1 l0)) = (wr true (textU a1 l0), 0) := by
    unfold swapW; rw [if_pos (by omega), sw_wr]
  unfold galleylaw32_WideSwaps.f; rw [hw, Option.bind_some, if_pos rfl, own32_f l0 (by omega), Option.bind_some, encode_f _ l0 false false a1 hb (by omega) (by omega), Option.bind_some, Option.bind_some, encode_f _ l0 true false a1 hb (by omega) (by omega), Option.bind_some, e1, e2, own32_f (wr false (textU a1 l0)) (by omega), Option.bind_some, swap_f _ (wr false (textU a1 l0)) (by omega) (by omega), Option.bind_some, hs, if_pos rfl, bne_self_eq_false, galleylaw32_WideSwaps.j0, if_neg (by decide)]; have ht := text_same a1 l0; exact swaps_l0 l0 a1 _ _ h0 hb (by omega) (by omega) 2 k 0 (by omega) (by omega) (by omega)
end Go.Proofs.YtcdehlnkilcgaaaDoor.Pure
