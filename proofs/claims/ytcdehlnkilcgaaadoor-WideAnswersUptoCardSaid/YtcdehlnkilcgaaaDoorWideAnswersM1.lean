/- Plain: what Len, Split and Join of the program and of the reference answer. -/
import Derived.Test.YtcdehlnkilcgaaaDoorWideAnswersQa
import Derived.Test.YtcdehlnkilcgaaaDoorWideAnswersQf
namespace Go.Proofs.YtcdehlnkilcgaaaDoor.Pure
open Go.RowKit Go.Proofs.YtcdehlnkilcgaaaDoor.Q
theorem w64 {x : Int} (h : -9223372036854775808 ≤ x) (h' : x ≤ 9223372036854775807) : wrap64 x = x := by
  unfold wrap64; omega
theorem w32 {x : Int} (h : -2147483648 ≤ x) (h' : x ≤ 2147483647) : wrap32 x = x := by
  unfold wrap32; omega
theorem w16 {x : Int} (h : 0 ≤ x) (h' : x ≤ 65535) : IntKind.u16.wrap x = x := by
  have e1 : IntKind.u16.wrap x = x % 65536 := by
    simp [IntKind.wrap, IntKind.bits, IntKind.signed]
  omega
def lenP (r : Int) : Int := if r < 0 ∨ (55296 ≤ r ∧ r ≤ 57343) ∨ 1114111 < r then 0 else if 65535 < r then 2 else 1
def splitP (r : Int) : Int × Int × Bool := if 65535 < r ∧ r ≤ 1114111 then (55296 + (r - 65536) / 1024, 56320 + (r - 65536) % 1024, true) else (0, 0, false)
def joinP (a b : Int) : Int × Bool := if (55296 ≤ a ∧ a ≤ 56319) ∧ (56320 ≤ b ∧ b ≤ 57343) then (65536 + (a - 55296) * 1024 + (b - 56320), true) else (0, false)
theorem len_f (k : Nat) (hk : 1 ≤ k) (r : Int) : units_Len.f k r = some (lenP r) := by
  obtain ⟨k, rfl⟩ : ∃ m, k = m + 1 := ⟨k - 1, by omega⟩
  have e : utf8_ValidRune.f (k + 1) r = some (decide ((0 ≤ r ∧ r < 55296) ∨ (57343 < r ∧ r ≤ 1114111))) := by
    unfold utf8_ValidRune.f; simp only [utf8_ValidRune.j0, decide_eq_true_eq]; repeat' split
    all_goals first
      | (congr 1; symm; apply decide_eq_true; omega)
      | (congr 1; symm; apply decide_eq_false; omega)
      | (exfalso; simp_all; done)
      | (exfalso; omega)
  unfold units_Len.f lenP; rw [e]; simp only [Option.bind_some, decide_eq_true_eq]; repeat' split
  all_goals first
    | rfl
    | (exfalso; omega)
theorem ref_len_f (k : Nat) (hk : 1 ≤ k) (r : Int) : galleyref03_Len.f k r = some (lenP r) := by
  obtain ⟨k, rfl⟩ : ∃ m, k = m + 1 := ⟨k - 1, by omega⟩; unfold galleyref03_Len.f lenP; simp only [galleyref03_Len.j0, decide_eq_true_eq, if_true]; repeat' split
  all_goals first
    | rfl
    | (exfalso; omega)
theorem mask10 {x : Int} (h : 0 ≤ x) (h' : x < 2147483648) : bits .and .i32 x 1023 = x % 1024 := by
  exact bits_mask .i32 31 (by decide) wraps_i32 10 (by decide) x h (by omega)
theorem lenP_two (r : Int) : lenP r = 2 ↔ 65535 < r ∧ r ≤ 1114111 := by
  unfold lenP; by_cases h : r < 0 ∨ (55296 ≤ r ∧ r ≤ 57343) ∨ 1114111 < r; · rw [if_pos h]; omega
  · rw [if_neg h]; by_cases h2 : 65535 < r; · rw [if_pos h2]; omega
    · rw [if_neg h2]; omega
theorem split_f (k : Nat) (hk : 1 ≤ k) (r : Int) : units_Split.f k r = some (splitP r) := by
  unfold units_Split.f splitP; rw [len_f k hk]; simp only [Option.bind_some]; by_cases h : 65535 < r ∧ r ≤ 1114111; · rw [if_pos ((lenP_two r).2 h), if_pos h, w32 (x := r - 65536) (by omega) (by omega), mask10 (by omega) (by omega), w32 (x := 55296 + (r - 65536) / 1024) (by omega) (by omega), w32 (x := 56320 + (r - 65536) % 1024) (by omega) (by omega), w16 (by omega) (by omega), w16 (by omega) (by omega)]
  · rw [if_neg (fun e => h ((lenP_two r).1 e)), if_neg h]
theorem ref_split_f (k : Nat) (hk : 1 ≤ k) (r : Int) : galleyref03_Split.f k r = some (splitP r) := by
  unfold galleyref03_Split.f splitP; rw [ref_len_f k hk]; simp only [Option.bind_some]; by_cases h : 65535 < r ∧ r ≤ 1114111; · have e1 : Int.tdiv (r - 65536) 1024 = (r - 65536) / 1024 := Int.tdiv_eq_ediv_of_nonneg (by omega); have e2 : Int.tmod (r - 65536) 1024 = (r - 65536) % 1024 := Int.tmod_eq_emod_of_nonneg (by omega); rw [if_pos ((lenP_two r).2 h), if_pos h, w64 (x := r) (by omega) (by omega), w64 (x := r - 65536) (by omega) (by omega), e1, e2, w64 (x := (r - 65536) / 1024) (by omega) (by omega), w64 (by omega) (by omega), w64 (by omega) (by omega), w16 (by omega) (by omega), w16 (by omega) (by omega)]
  · rw [if_neg (fun e => h ((lenP_two r).1 e)), if_neg h]
theorem join_f (a b : Int) (ha : 0 ≤ a) (ha' : a ≤ 65535) (hb : 0 ≤ b) (hb' : b ≤ 65535) : units_Join.f a b = some (joinP a b) := by
  unfold units_Join.f joinP units_high.f units_low.f; by_cases h1 : a ≥ 55296
  · rw [if_pos h1]; simp only [Option.bind_some]; by_cases h2 : a ≤ 56319
    · rw [if_pos (decide_eq_true h2)]; by_cases h3 : b ≥ 56320
      · rw [if_pos h3]; simp only [Option.bind_some]; by_cases h4 : b ≤ 57343; · rw [if_pos (decide_eq_true h4), if_pos (by omega)]; rw [w16 (x := a - 55296) (by omega) (by omega), w16 (x := b - 56320) (by omega) (by omega), w32 (x := a - 55296) (by omega) (by omega), w32 (x := (a - 55296) * 1024) (by omega) (by omega), w32 (x := 65536 + (a - 55296) * 1024) (by omega) (by omega), w32 (x := b - 56320) (by omega) (by omega), w32 (by omega) (by omega)]
        · rw [if_neg (by simpa using h4), if_neg (by omega)]
      · rw [if_neg h3, if_neg (by omega)]; simp
    · rw [if_neg (by simpa using h2), if_neg (by omega)]
  · rw [if_neg h1]; simp only [Option.bind_some]; rw [if_neg (by decide), if_neg (by omega)]
theorem ref_join_f (a b : Int) (ha : 0 ≤ a) (ha' : a ≤ 65535) (hb : 0 ≤ b) (hb' : b ≤ 65535) : galleyref03_Join.f a b = some (joinP a b) := by
  have hH : galleyref03_High.f a = some (decide (55296 ≤ a ∧ a ≤ 56319)) := by
    unfold galleyref03_High.f; by_cases h1 : a ≥ 55296; · rw [if_pos h1]; simp; omega
    · rw [if_neg h1]; simp; omega
  have hL : galleyref03_Low.f b = some (decide (56320 ≤ b ∧ b ≤ 57343)) := by
    unfold galleyref03_Low.f; by_cases h1 : b ≥ 56320; · rw [if_pos h1]; simp; omega
    · rw [if_neg h1]; simp; omega
  unfold galleyref03_Join.f joinP; rw [hH, hL]; simp only [Option.bind_some]; by_cases h1 : 55296 ≤ a ∧ a ≤ 56319
  · rw [if_pos (decide_eq_true h1)]; by_cases h2 : 56320 ≤ b ∧ b ≤ 57343; · rw [if_pos (decide_eq_true h2), if_pos ⟨h1, h2⟩]; rw [w64 (x := a) (by omega) (by omega), w64 (x := a - 55296) (by omega) (by omega), w64 (x := (a - 55296) * 1024) (by omega) (by omega), w64 (x := 65536 + (a - 55296) * 1024) (by omega) (by omega), w64 (x := b) (by omega) (by omega), w64 (x := 65536 + (a - 55296) * 1024 + b) (by omega) (by omega), w64 (by omega) (by omega), w32 (by omega) (by omega)]; (congr 2); omega
    · rw [if_neg (by simpa using h2), if_neg (fun h => h2 h.2)]
  · rw [if_neg (by simpa using h1), if_neg (fun h => h1 h.1)]
end Go.Proofs.YtcdehlnkilcgaaaDoor.Pure
