/- Plain: what Len, Split and Join of the program and of the reference answer. -/
import Derived.Test.YtcdehlnkilcgaaaDoorWideTurnsQa
import Derived.Test.YtcdehlnkilcgaaaDoorWideTurnsQ0
namespace Go.Proofs.YtcdehlnkilcgaaaDoor.Pure
open Go.RowKit Go.Proofs.YtcdehlnkilcgaaaDoor.Q
theorem w64 {x : Int} (h : -9223372036854775808 ≤ x) (h' : x ≤ 9223372036854775807) : wrap64 x = x := by
  unfold wrap64; omega
theorem w32 {x : Int} (h : -2147483648 ≤ x) (h' : x ≤ 2147483647) : wrap32 x = x := by
  unfold wrap32; omega
theorem w16 {x : Int} (h : 0 ≤ x) (h' : x ≤ 65535) : IntKind.u16.wrap x = x := by
  have e1 : IntKind.u16.wrap x = x % 65536 := by
    simp [IntKind.wrap, IntKind.bits, IntKind.signed]
  omega
def joinP (a b : Int) : Int × Bool := if (55296 ≤ a ∧ a ≤ 56319) ∧ (56320 ≤ b ∧ b ≤ 57343) then (65536 + (a - 55296) * 1024 + (b - 56320), true) else (0, false)
theorem join_f (a b : Int) (ha : 0 ≤ a) (ha' : a ≤ 65535) (hb : 0 ≤ b) (hb' : b ≤ 65535) : units_Join.f a b = some (joinP a b) := by
  unfold units_Join.f joinP units_high.f units_low.f; by_cases h1 : a ≥ 55296
  · rw [if_pos h1]; simp only [Option.bind_some]; by_cases h2 : a ≤ 56319
    · rw [if_pos (decide_eq_true h2)]; by_cases h3 : b ≥ 56320
      · rw [if_pos h3]; simp only [Option.bind_some]; by_cases h4 : b ≤ 57343; · rw [if_pos (decide_eq_true h4), if_pos (by omega)]; rw [w16 (x := a - 55296) (by omega) (by omega), w16 (x := b - 56320) (by omega) (by omega), w32 (x := a - 55296) (by omega) (by omega), w32 (x := (a - 55296) * 1024) (by omega) (by omega), w32 (x := 65536 + (a - 55296) * 1024) (by omega) (by omega), w32 (x := b - 56320) (by omega) (by omega), w32 (by omega) (by omega)]
        · rw [if_neg (by simpa using h4), if_neg (by omega)]
      · rw [if_neg h3, if_neg (by omega)]; simp
    · rw [if_neg (by simpa using h2), if_neg (by omega)]
  · rw [if_neg h1]; simp only [Option.bind_some]; rw [if_neg (by decide), if_neg (by omega)]
end Go.Proofs.YtcdehlnkilcgaaaDoor.Pure
