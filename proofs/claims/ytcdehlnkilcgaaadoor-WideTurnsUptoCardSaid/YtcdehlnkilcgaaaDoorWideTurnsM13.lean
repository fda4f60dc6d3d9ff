/- Plain: package wide and its reference. -/
import Derived.Test.YtcdehlnkilcgaaaDoorWideTurnsM5
import Derived.Laws.Strings2
import Derived.Test.YtcdehlnkilcgaaaDoorWideTurnsM10
import Derived.Test.YtcdehlnkilcgaaaDoorWideTurnsQo
import Derived.Test.YtcdehlnkilcgaaaDoorWideTurnsQp
namespace Go.Proofs.YtcdehlnkilcgaaaDoor.Pure
open Go.RowKit Go.Proofs.YtcdehlnkilcgaaaDoor.Q Go.Proofs.YtcdehlnkilcgaaaDoorW.PrintWords
/-- A unit's two bytes. -/
def pairB (big : Bool) (u : Int) : List Int := if big = true then [u / 256, u % 256] else [u % 256, u / 256]
def wr (big : Bool) (us : List Int) : List Int := us.flatMap (pairB big)
def joinB (big : Bool) (x y : Int) : Int := if big = true then 256 * x + y else 256 * y + x
def unB (big : Bool) : List Int → List Int
  | x :: y :: r => joinB big x y :: unB big r
  | _ => []
theorem wraps_u16 (n : Int) (h₀ : 0 ≤ n) (h₁ : n < 2 ^ 16) : IntKind.u16.wrap n = n := w16 h₀ (by omega)
theorem or_u16 (x y : Int) (hx : 0 ≤ x ∧ x ≤ 255) (hy : 0 ≤ y ∧ y ≤ 255) : Go.bits .or .u16 (IntKind.u16.wrap ((IntKind.u16.wrap x) * 256)) (IntKind.u16.wrap y) = 256 * x + y := by
  rw [w16 (x := x) (by omega) (by omega), w16 (x := x * 256) (by omega) (by omega), w16 (x := y) (by omega) (by omega), bits_join .u16 16 (by decide) wraps_u16 8 (x * 256) y (by omega) (by omega) (by omega) (by omega) (by omega) (by omega)]; omega
theorem un_len (big : Bool) : ∀ (n : Nat) (l : List Int), l.length = 2 * n → (unB big l).length = n := by
  intro n
  induction n with
  | zero =>
    intro l h; have : l = [] := List.eq_nil_of_length_eq_zero (by omega); subst this
    rfl
  | succ n ih =>
    intro l h
    match l, h with
    | x :: y :: r, h =>
      simp only [List.length_cons] at h; simp [unB, ih r (by omega)]
theorem un_u16 (big : Bool) : ∀ (n : Nat) (l : List Int), l.length = 2 * n → bytes l → u16s (unB big l) := by
  intro n
  induction n with
  | zero =>
    intro l h _; have : l = [] := List.eq_nil_of_length_eq_zero (by omega); subst this; intro x hx
    cases hx
  | succ n ih =>
    intro l h hb
    match l, h, hb with
    | x :: y :: r, h, hb =>
      simp only [List.length_cons] at h; have hx := hb x (by simp); have hy := hb y (by simp); intro z hz; rw [unB] at hz; rcases List.mem_cons.1 hz with hz | hz
      · rw [hz]; unfold joinB; split <;> omega
      · exact ih r (by omega) (fun q hq => hb q (by simp [hq])) z hz
end Go.Proofs.YtcdehlnkilcgaaaDoor.Pure
