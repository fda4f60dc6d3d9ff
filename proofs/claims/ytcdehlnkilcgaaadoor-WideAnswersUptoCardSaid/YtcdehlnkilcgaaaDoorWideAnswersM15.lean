/- Plain: Swap of package wide. -/
import Derived.Test.YtcdehlnkilcgaaaDoorWideAnswersM14
namespace Go.Proofs.YtcdehlnkilcgaaaDoor.Pure
open Go.RowKit Go.Proofs.YtcdehlnkilcgaaaDoor.Q Go.Proofs.YtcdehlnkilcgaaaDoorW.PrintWords
theorem xor_even (m : Nat) : (2 * m) ^^^ 1 = 2 * m + 1 := by
  apply Nat.eq_of_testBit_eq; intro i
  cases i with
  | zero => simp [Nat.testBit_zero]
  | succ i =>
    rw [Nat.testBit_xor, Nat.testBit_succ, Nat.testBit_succ, Nat.testBit_succ, show 2 * m / 2 = m by omega, show 1 / 2 = 0 by omega, show (2 * m + 1) / 2 = m by omega]; simp
theorem xor_odd (m : Nat) : (2 * m + 1) ^^^ 1 = 2 * m := by
  apply Nat.eq_of_testBit_eq; intro i
  cases i with
  | zero => simp [Nat.testBit_zero]
  | succ i =>
    rw [Nat.testBit_xor, Nat.testBit_succ, Nat.testBit_succ, Nat.testBit_succ, show 2 * m / 2 = m by omega, show 1 / 2 = 0 by omega, show (2 * m + 1) / 2 = m by omega]; simp
theorem xor_nat (a : Nat) (ha : a < 4611686018427387904) (b : Nat) (hb : a ^^^ 1 = b) (hb' : b < 4611686018427387904) : Go.bits .xor .i64 (a : Int) 1 = (b : Int) := by
  have e1 : a % 2 ^ IntKind.i64.bits = a := Nat.mod_eq_of_lt (by simp [IntKind.bits]; omega); (have e2 : 1 % 2 ^ IntKind.i64.bits = 1 := by decide); rw [show (1 : Int) = ((1 : Nat) : Int) from rfl]; simp only [bits, BitVec.ofInt_natCast, BitVec.toNat_xor, BitVec.toNat_ofNat, e1, e2, hb]; rw [IntKind.wrap_i64]; omega
theorem set_two (d zs : List Int) (x y : Int) : ((d ++ 0 :: 0 :: zs).set (d.length + 1) x).set d.length y = d ++ y :: x :: zs := by
  rw [List.set_append_right _ _ (by omega), List.set_append_right _ _ (by omega)]; simp
theorem swap_l0 : ∀ (n k : Nat) (pre rest d : List Int), rest.length = 2 * n → d.length = pre.length → pre.length % 2 = 0 → pre.length + rest.length ≤ 16777216 → 2 * n + 1 ≤ k →
    wide_Swap.l0 k (pre ++ rest) (d ++ List.replicate (2 * n) 0) (((pre ++ rest).length : Nat) : Int) ((pre.length : Nat) : Int) = some (d ++ swB rest, 0) := by
  intro n
  induction n with
  | zero =>
    intro k pre rest d hr hd he hn hk; obtain ⟨k, rfl⟩ : ∃ m, k = m + 1 := ⟨k - 1, by omega⟩; have : rest = [] := List.eq_nil_of_length_eq_zero (by omega); subst this; rw [wide_Swap.l0, if_neg (by simp)]
    simp [swB]
  | succ n ih =>
    intro k pre rest d hr hd he hn hk; obtain ⟨k, rfl⟩ : ∃ m, k = m + 2 := ⟨k - 2, by omega⟩
    match rest, hr, hn with
    | x :: y :: r, hr, hn =>
      simp only [List.length_cons] at hr hn; obtain ⟨r1, r2⟩ := rdD pre x y r
      have x1 : Go.bits .xor .i64 ((pre.length : Nat) : Int) 1 = ((pre.length + 1 : Nat) : Int) := xor_nat _ (by omega) _ (by
        have := xor_even (pre.length / 2); rw [show 2 * (pre.length / 2) = pre.length by omega] at this
        exact this) (by omega)
      have x2 : Go.bits .xor .i64 ((pre.length + 1 : Nat) : Int) 1 = ((pre.length : Nat) : Int) := xor_nat _ (by omega) _ (by
        have := xor_odd (pre.length / 2); rw [show 2 * (pre.length / 2) = pre.length by omega] at this
        exact this) (by omega)
      have hz : List.replicate (2 * (n + 1)) (0 : Int) = 0 :: 0 :: List.replicate (2 * n) 0 := by
        rw [show 2 * (n + 1) = (2 * n + 1) + 1 by omega, List.replicate_succ, List.replicate_succ]
      rw [wide_Swap.l0, if_pos (by simp; omega), if_pos (by omega), if_pos (by simp; omega), x1, if_pos (by omega), if_pos (by simp; omega), r1, w64 (by omega) (by omega), show ((pre.length : Nat) : Int) + 1 = ((pre.length + 1 : Nat) : Int) by omega,
        wide_Swap.l0, if_pos (by simp; omega), if_pos (by omega), if_pos (by simp; omega), x2, if_pos (by omega), if_pos (by simp; omega), r2, w64 (by omega) (by omega), Int.toNat_natCast, Int.toNat_natCast, hz, ← hd, set_two]
      have := ih k (pre ++ [x, y]) r (d ++ [y, x]) (by omega) (by simp; omega) (by simp; omega) (by simp; omega) (by omega); rw [List.append_assoc, List.append_assoc, List.append_assoc] at this; rw [hd]; rw [show (((pre ++ [x, y]).length : Nat) : Int) = ((pre.length + 1 : Nat) : Int) + 1 by simp; omega] at this; exact this
def swapW (l : List Int) : List Int × Int := if l.length % 2 = 0 then (swB l, 0) else ([], 320)
theorem swap_f (k : Nat) (l : List Int) (hn : l.length ≤ 8388608) (hk : l.length + 1 ≤ k) : wide_Swap.f k l = some (swapW l) := by
  unfold wide_Swap.f swapW; by_cases h : l.length % 2 = 0; · rw [if_pos (by omega), if_pos h, if_pos (by omega), if_pos (by omega), Int.toNat_natCast]; have := swap_l0 (l.length / 2) k [] l [] (by omega) rfl rfl (by simp; omega) (by omega); rw [show 2 * (l.length / 2) = l.length by omega] at this; simpa using this
  · rw [if_neg (by omega), if_neg h]
end Go.Proofs.YtcdehlnkilcgaaaDoor.Pure
