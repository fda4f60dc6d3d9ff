/- The law WideOwn, over numbers alone. -/
import Derived.Test.YtcdehlnkilcgaaaDoorWideOwnM16
import Derived.Test.YtcdehlnkilcgaaaDoorWideOwnQ
namespace Go.Proofs.YtcdehlnkilcgaaaDoor.Pure
open Go.RowKit Go.Proofs.YtcdehlnkilcgaaaDoor.Q Go.Proofs.YtcdehlnkilcgaaaDoorW.PrintWords
theorem own32_f (l : List Int) (h : l.length ≤ 16777216) : galleylaw32_own.f l = some l := by
  unfold galleylaw32_own.f; (simp); omega
theorem enc_len2 (l : List Int) (big bom ex : Bool) : (encB l big bom ex).length ≤ 4 * l.length + 2 := by
  have := text_len ex l; unfold encB; rw [List.length_append, wr_len]; split
  · rw [pair_len]; omega
  · simp; omega
section
variable {l0 : List Int} {a1 a2 : Bool}
theorem own_l2 (h0 : l0.length ≤ 1048576) (hb : bytes l0) : ∀ (d k : Nat) (x9 : List Int) (x : Int), 0 ≤ x → x + d = 20 → d + 10 * l0.length + 150 ≤ k → x9.length + d ≤ 33554432 →
    galleylaw32_WideOwn.l2 k l0 a1 a2 x9 (encB l0 a1 true a2) (swapW l0).1 (decW l0 a1 a2).1 x = some true := by
  intro d
  induction d with
  | zero =>
    intro k x9 x h1 h2 hk hl; obtain ⟨k, rfl⟩ : ∃ m, k = m + 1 := ⟨k - 1, by omega⟩
    rw [galleylaw32_WideOwn.l2, if_neg (by omega), ref_swap_f k l0 (by omega) (by omega), Option.bind_some, ref_decode_f k l0 a1 a2 hb (by omega) (by omega), Option.bind_some, ref_encode_f k l0 a1 true a2 hb h0 (by omega), Option.bind_some, if_pos rfl, if_pos rfl, beq_self_eq_true]
  | succ d ih =>
    intro k x9 x h1 h2 hk hl; obtain ⟨k, rfl⟩ : ∃ m, k = m + 1 := ⟨k - 1, by omega⟩; rw [galleylaw32_WideOwn.l2, if_pos (by omega), if_pos (by omega), w64 (by omega) (by omega)]; exact ih k _ (x + 1) (by omega) (by omega) (by omega) (by simp; omega)
theorem own_l1 (h0 : l0.length ≤ 1048576) (hb : bytes l0) : ∀ (d k i : Nat) (x9 : List Int) (L : Nat), x9.length = L → i + d = L → L ≤ 16777216 → d + 10 * l0.length + 200 ≤ k →
    galleylaw32_WideOwn.l1 k l0 a1 a2 x9 (encB l0 a1 true a2) (swapW l0).1 (decW l0 a1 a2).1 (L : Int) (i : Int) = some true := by
  intro d
  induction d with
  | zero =>
    intro k i x9 L hl hi hL hk; obtain ⟨k, rfl⟩ : ∃ m, k = m + 1 := ⟨k - 1, by omega⟩; rw [galleylaw32_WideOwn.l1, if_neg (by omega)]
    exact own_l2 h0 hb 20 k x9 0 (by omega) (by omega) (by omega) (by omega)
  | succ d ih =>
    intro k i x9 L hl hi hL hk; obtain ⟨k, rfl⟩ : ∃ m, k = m + 1 := ⟨k - 1, by omega⟩; rw [galleylaw32_WideOwn.l1, if_pos (by omega), if_pos (by omega), if_pos (by omega), w64 (by omega) (by omega), show (i : Int) + 1 = ((i + 1 : Nat) : Int) by omega]; exact ih k (i + 1) _ L (by simp; omega) (by omega) hL (by omega)
theorem own_l0 (h0 : l0.length ≤ 1048576) (hb : bytes l0) (x9 : List Int) (h9 : x9.length ≤ 4 * l0.length + 2) : ∀ (d k i : Nat) (x7 : List Int) (L : Nat), x7.length = L → i + d = L → L ≤ 16777216 → d + 20 * l0.length + 300 ≤ k →
    galleylaw32_WideOwn.l0 k l0 a1 a2 x7 x9 (encB l0 a1 true a2) (swapW l0).1 (decW l0 a1 a2).1 (L : Int) (i : Int) = some true := by
  intro d
  induction d with
  | zero =>
    intro k i x7 L hl hi hL hk; obtain ⟨k, rfl⟩ : ∃ m, k = m + 1 := ⟨k - 1, by omega⟩; rw [galleylaw32_WideOwn.l0, if_neg (by omega)]; have := own_l1 (a1 := a1) (a2 := a2) h0 hb x9.length k 0 x9 x9.length rfl (by omega) (by omega) (by omega)
    exact this
  | succ d ih =>
    intro k i x7 L hl hi hL hk; obtain ⟨k, rfl⟩ : ∃ m, k = m + 1 := ⟨k - 1, by omega⟩; rw [galleylaw32_WideOwn.l0, if_pos (by omega), if_pos (by omega), if_pos (by omega), w64 (by omega) (by omega), show (i : Int) + 1 = ((i + 1 : Nat) : Int) by omega]; exact ih k (i + 1) _ L (by simp; omega) (by omega) hL (by omega)
end
theorem WideOwn (l0 : List Int) (a1 a2 : Bool) (h0 : l0.length ≤ 1048576) (hb : ∀ x ∈ l0, 0 ≤ x ∧ x ≤ 255) : ∃ k, galleylaw32_WideOwn.f k l0 a1 a2 = some true := by
  refine ⟨30 * l0.length + 500, ?_⟩; obtain ⟨k, hk⟩ : ∃ k, 30 * l0.length + 500 = k + 1 := ⟨30 * l0.length + 499, by omega⟩; rw [hk]; have hw : galleylaw32_awake.f (k + 1) = some true := at_rounds galleylaw32_awake.mono (by omega) (show galleylaw32_awake.f 40 = some true by kernel_rfl); (have ht : (l0 ++ [7]).take ((l0.length : Int)).toNat = l0 := by rw [Int.toNat_natCast, List.take_left]); have h9 := enc_len2 l0 a1 true a2; have hr : rd (l0 ++ [7]) (l0.length : Int) = 7 := rd_mid l0 [] 7; unfold galleylaw32_WideOwn.f; rw [hw, Option.bind_some, if_pos rfl, own32_f l0 (by omega), Option.bind_some, if_pos (by omega), Option.bind_some, if_pos (by omega), if_pos (by simp; omega), ht, Option.bind_some, encode_f _ l0 a1 true a2 hb (by omega) (by omega), Option.bind_some, Option.bind_some, swap_f _ l0 (by omega) (by omega), Option.bind_some, decode_f _ l0 a1 a2 hb (by omega) (by omega), Option.bind_some, guess_f l0 hb, Option.bind_some, if_pos rfl, if_pos (by simp; omega), hr, bne_self_eq_false, galleylaw32_WideOwn.j0, if_neg (by decide)]; exact own_l0 h0 hb _ h9 (l0 ++ [7]).length k 0 (l0 ++ [7]) _ rfl (by omega) (by simp; omega) (by simp; omega)
end Go.Proofs.YtcdehlnkilcgaaaDoor.Pure
