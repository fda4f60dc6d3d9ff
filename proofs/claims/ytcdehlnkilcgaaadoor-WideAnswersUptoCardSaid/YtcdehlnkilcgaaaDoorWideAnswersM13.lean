/- Plain: package wide and its reference. -/
import Derived.Test.YtcdehlnkilcgaaaDoorWideAnswersM6
import Derived.Test.YtcdehlnkilcgaaaDoorWideAnswersM10
import Derived.Test.YtcdehlnkilcgaaaDoorWideAnswersQo
import Derived.Test.YtcdehlnkilcgaaaDoorWideAnswersQp
namespace Go.Proofs.YtcdehlnkilcgaaaDoor.Pure
open Go.RowKit Go.Proofs.YtcdehlnkilcgaaaDoor.Q Go.Proofs.YtcdehlnkilcgaaaDoorW.PrintWords
/-- A unit's two bytes. -/
def pairB (big : Bool) (u : Int) : List Int := if big = true then [u / 256, u % 256] else [u % 256, u / 256]
def wr (big : Bool) (us : List Int) : List Int := us.flatMap (pairB big)
def textU (ex : Bool) (l : List Int) : List Int := if ex = true then tells exact l else tells seen l
def encB (l : List Int) (big bom ex : Bool) : List Int := (if bom = true then pairB big 65279 else []) ++ wr big (textU ex l)
theorem tells_len (g : List Int → List Int) (hg : ∀ m, (g m).length ≤ 2) (m : List Int) : (tells g m).length ≤ 2 * m.length := flat_len hg _ m
theorem unit_u16 (r : Int) (hs : scalar r) : u16s (unitsOf r) := by
  unfold scalar at hs; unfold u16s unitsOf; split
  all_goals
    intro x hx; simp only [List.mem_cons, List.not_mem_nil, or_false] at hx; omega
theorem tells_u16 (g : List Int → List Int) (hg : ∀ m, bytes m → m ≠ [] → u16s (g m)) (m : List Int) (hb : bytes m) : u16s (tells g m) := by
  intro x hx; unfold tells at hx; obtain ⟨s, hs, hx⟩ := List.mem_flatMap.1 hx; obtain ⟨h1, h2⟩ := sufs_mem _ m hb s hs; exact hg s h2 h1 x hx
theorem seen_u16 (m : List Int) : u16s (seen m) := unit_u16 _ (run_scalar m)
theorem exact_u16 (m : List Int) (hb : bytes m) (hm : m ≠ []) : u16s (exact m) := by
  by_cases h : lng m = 0; · rw [exact_bad m h]; have := head_bad m hb hm h; intro x hx; simp only [List.mem_cons, List.not_mem_nil, or_false] at hx; omega
  · rw [exact_good m h]; exact unit_u16 _ (run_scalar m)
theorem text_len (ex : Bool) (l : List Int) : (textU ex l).length ≤ 2 * l.length := by
  unfold textU; split
  · exact tells_len exact exact_len l
  · exact tells_len seen seen_len l
theorem text_u16 (ex : Bool) (l : List Int) (hb : bytes l) : u16s (textU ex l) := by
  unfold textU; split
  · exact tells_u16 exact exact_u16 l hb
  · exact tells_u16 seen (fun m _ _ => seen_u16 m) l hb
theorem pair_len (big : Bool) (u : Int) : (pairB big u).length = 2 := by
  unfold pairB; split <;> rfl
theorem wr_cons (big : Bool) (u : Int) (us : List Int) : wr big (u :: us) = pairB big u ++ wr big us := by simp [wr]
theorem wr_len (big : Bool) (us : List Int) : (wr big us).length = 2 * us.length := by
  induction us with
  | nil => rfl
  | cons u us ih =>
    rw [wr_cons, List.length_append, pair_len, ih, List.length_cons]; omega
theorem write_l0 (big : Bool) : ∀ (us : List Int) (k : Nat) (pre out : List Int), u16s us → us.length + 1 ≤ k → out.length + 2 * us.length ≤ 16777216 → pre.length + us.length ≤ 16777216 →
    wide_write.l0 k big out (pre ++ us) (((pre ++ us).length : Nat) : Int) ((pre.length : Nat) : Int) = some (out ++ wr big us) := by
  intro us
  induction us with
  | nil =>
    intro k pre out _ hk _ _; obtain ⟨k, rfl⟩ : ∃ m, k = m + 1 := ⟨k - 1, by omega⟩; rw [wide_write.l0, if_neg (by simp)]
    simp [wr]
  | cons u us ih =>
    intro k pre out hu hk ho hp; obtain ⟨k, rfl⟩ : ∃ m, k = m + 1 := ⟨k - 1, by omega⟩; simp only [List.length_cons] at hk ho hp; have hx := hu u (by simp)
    have next : ∀ p : List Int, p.length = 2 → wide_write.l0 k big (out ++ p) (pre ++ u :: us) (((pre ++ u :: us).length : Nat) : Int) (((pre.length : Nat) : Int) + 1) = some ((out ++ p) ++ wr big us) := by
      intro p h2; have := ih k (pre ++ [u]) (out ++ p) (fun x hx => hu x (by simp [hx])) (by omega) (by simp; omega) (by simp; omega); rw [List.append_assoc, show (((pre ++ [u]).length : Nat) : Int) = ((pre.length : Nat) : Int) + 1 by simp] at this; exact this
    rw [wide_write.l0, if_pos (by simp; omega), if_pos (by omega), if_pos (by simp; omega), rd_mid, w64 (by omega) (by omega), Option.bind_some, Option.bind_some, wr_cons, show u / 256 % 256 = u / 256 by omega]
    cases big with
    | true =>
      rw [if_pos rfl, if_pos (by simp; omega), next _ rfl, List.append_assoc]
      rfl
    | false =>
      rw [if_neg (by decide), if_pos (by simp; omega), next _ rfl, List.append_assoc]; rfl
theorem write_f (k : Nat) (big : Bool) (us : List Int) (hu : u16s us) (hk : us.length + 1 ≤ k) (hn : us.length ≤ 8388608) : wide_write.f k big us = some (wr big us) := by
  unfold wide_write.f; have := write_l0 big us k [] [] hu hk (by simp; omega) (by simp; omega); simpa using this
theorem encode_f (k : Nat) (l : List Int) (big bom ex : Bool) (hb : bytes l) (hn : l.length ≤ 4194304) (hk : 2 * l.length + 20 ≤ k) : wide_Encode.f k l big bom ex = some (encB l big bom ex) := by
  obtain ⟨k, rfl⟩ : ∃ m, k = m + 1 := ⟨k - 1, by omega⟩; have hx : units_To.f (k + 1) l = some (tells seen l) := to_f (k + 1) l hb (by omega) (by omega); have hy : units_ToExact.f (k + 1) l = some (tells exact l) := toExact_f (k + 1) l hb (by omega) (by omega); have hl := text_len ex l; have hu := text_u16 ex l hb
  have j0 : wide_Encode.j0 (k + 1) big bom (textU ex l) = some (encB l big bom ex) := by
    rw [wide_Encode.j0, write_f k big _ hu (by omega) (by omega), write_f k big [65279] (by intro x hx; simp at hx; omega) (by simp; omega) (by simp)]; have h1 := wr_len big (textU ex l); have h2 := wr_len big [65279]; simp only [List.length_cons, List.length_nil] at h2; rw [Option.bind_some, Option.bind_some, Option.bind_some]; unfold encB
    cases bom with
    | true =>
      rw [if_pos rfl, if_pos rfl, if_pos (by omega)]
      simp [wr]
    | false =>
      rw [if_neg (show ¬ (false = true) by decide), if_neg (show ¬ (false = true) by decide), if_pos (by simp; omega)]
  unfold wide_Encode.f; rw [hx, Option.bind_some, hy, Option.bind_some]
  cases ex with
  | true => rw [if_pos rfl]; exact j0
  | false => rw [if_neg (by decide)]; exact j0
def joinB (big : Bool) (x y : Int) : Int := if big = true then 256 * x + y else 256 * y + x
def unB (big : Bool) : List Int → List Int
  | x :: y :: r => joinB big x y :: unB big r
  | _ => []
theorem wraps_u16 (n : Int) (h₀ : 0 ≤ n) (h₁ : n < 2 ^ 16) : IntKind.u16.wrap n = n := w16 h₀ (by omega)
theorem or_u16 (x y : Int) (hx : 0 ≤ x ∧ x ≤ 255) (hy : 0 ≤ y ∧ y ≤ 255) : Go.bits .or .u16 (IntKind.u16.wrap ((IntKind.u16.wrap x) * 256)) (IntKind.u16.wrap y) = 256 * x + y := by
  rw [w16 (x := x) (by omega) (by omega), w16 (x := x * 256) (by omega) (by omega), w16 (x := y) (by omega) (by omega), bits_join .u16 16 (by decide) wraps_u16 8 (x * 256) y (by omega) (by omega) (by omega) (by omega) (by omega) (by omega)]; omega
theorem un_len (big : Bool) : ∀ (n : Nat) (l : List Int), l.length = 2 * n → (unB big l).length = n := by
  intro n
  induction n with
  | zero =>
    intro l h; have : l = [] := List.eq_nil_of_length_eq_zero (by omega); subst this
    rfl
  | succ n ih =>
    intro l h
    match l, h with
    | x :: y :: r, h =>
      simp only [List.length_cons] at h; simp [unB, ih r (by omega)]
theorem un_u16 (big : Bool) : ∀ (n : Nat) (l : List Int), l.length = 2 * n → bytes l → u16s (unB big l) := by
  intro n
  induction n with
  | zero =>
    intro l h _; have : l = [] := List.eq_nil_of_length_eq_zero (by omega); subst this; intro x hx
    cases hx
  | succ n ih =>
    intro l h hb
    match l, h, hb with
    | x :: y :: r, h, hb =>
      simp only [List.length_cons] at h; have hx := hb x (by simp); have hy := hb y (by simp); intro z hz; rw [unB] at hz; rcases List.mem_cons.1 hz with hz | hz
      · rw [hz]; unfold joinB; split <;> omega
      · exact ih r (by omega) (fun q hq => hb q (by simp [hq])) z hz
end Go.Proofs.YtcdehlnkilcgaaaDoor.Pure
