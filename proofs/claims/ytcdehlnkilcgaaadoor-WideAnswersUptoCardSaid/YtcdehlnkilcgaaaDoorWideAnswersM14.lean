/- Plain: Decode, Swap and Guess of package wide. -/
import Derived.Test.YtcdehlnkilcgaaaDoorWideAnswersM13
import Derived.Test.YtcdehlnkilcgaaaDoorWideAnswersM11
namespace Go.Proofs.YtcdehlnkilcgaaaDoor.Pure
open Go.RowKit Go.Proofs.YtcdehlnkilcgaaaDoor.Q Go.Proofs.YtcdehlnkilcgaaaDoorW.PrintWords
def readU (ex : Bool) (us : List Int) : List Int × Int × Int := if ex = true then backP (us.length + 1) us 0 [] else fromP (us.length + 1) us 0 []
def decFin (ex : Bool) (us : List Int) : List Int × Int × Int := if (readU ex us).2.2 = 0 then ((readU ex us).1, 0, 0) else ([], 2 * (readU ex us).2.1, (readU ex us).2.2)
theorem read_bd (ex : Bool) (us : List Int) (h : (readU ex us).2.2 ≠ 0) : 0 ≤ (readU ex us).2.1 ∧ (readU ex us).2.1 < us.length := by
  unfold readU at h ⊢
  cases ex with
  | true =>
    rw [if_pos rfl] at h ⊢; have := back_fail _ us 0 [] h
    simpa using this.2
  | false =>
    rw [if_neg (by decide)] at h ⊢; have := from_fail _ us 0 [] h; simpa using this.2
theorem rdD (a : List Int) (x y : Int) (r : List Int) : rd (a ++ x :: y :: r) ((a.length : Nat) : Int) = x ∧ rd (a ++ x :: y :: r) (((a.length + 1 : Nat)) : Int) = y := by
  constructor; · exact rd_mid a (y :: r) x
  · have := rd_mid (a ++ [x]) r y; rw [List.append_assoc] at this; simpa using this
theorem decode_l0 (big ex : Bool) (us : List Int) (hu : u16s us) (hn : us.length ≤ 2097152) : ∀ (n k : Nat) (pre rest out : List Int), rest.length = 2 * n → bytes rest → out ++ unB big rest = us → n + 3 * us.length + 70 ≤ k → pre.length + rest.length ≤ 16777216 →
    wide_Decode.l0 k (pre ++ rest) big ex out ((pre.length : Nat) : Int) = some (decFin ex us) := by
  intro n
  induction n with
  | zero =>
    intro k pre rest out hr _ ho hk _; obtain ⟨k, rfl⟩ : ∃ m, k = m + 1 := ⟨k - 1, by omega⟩; have : rest = [] := List.eq_nil_of_length_eq_zero (by omega); subst this; rw [unB, List.append_nil] at ho
    · subst ho; rw [List.append_nil, wide_Decode.l0, if_neg (by omega)]; have hbd := read_bd ex out; unfold decFin; unfold readU at hbd ⊢
      cases ex with
      | true =>
        rw [if_pos rfl] at hbd; rw [if_pos rfl, if_pos rfl, exact_f k out hu (by omega) (by omega), Option.bind_some]; by_cases h : (backP (out.length + 1) out 0 []).2.2 = 0; · rw [if_pos h, if_pos h]
        · have := hbd h
          rw [if_neg h, if_neg h, w64 (by omega) (by omega)]
      | false =>
        rw [if_neg (by decide)] at hbd; rw [if_neg (show ¬ (false = true) by decide), if_neg (show ¬ (false = true) by decide), from_f k out hu (by omega) (by omega), Option.bind_some]; by_cases h : (fromP (out.length + 1) out 0 []).2.2 = 0; · rw [if_pos h, if_pos h]
        · have := hbd h; rw [if_neg h, if_neg h, w64 (by omega) (by omega)]
    · intro x y r h
      cases h
  | succ n ih =>
    intro k pre rest out hr hb ho hk hp; obtain ⟨k, rfl⟩ : ∃ m, k = m + 1 := ⟨k - 1, by omega⟩
    match rest, hr, hb, ho, hp with
    | x :: y :: r, hr, hb, ho, hp =>
      simp only [List.length_cons] at hr hp; have hx := hb x (by simp); have hy := hb y (by simp); obtain ⟨r1, r2⟩ := rdD pre x y r; rw [unB] at ho
      have hl : out.length + 1 ≤ us.length := by
        rw [← ho]; simp
      have next : wide_Decode.l0 k (pre ++ x :: y :: r) big ex (out ++ [joinB big x y]) (((pre.length : Nat) : Int) + 2) = some (decFin ex us) := by
        have := ih k (pre ++ [x, y]) r (out ++ [joinB big x y]) (by omega) (fun q hq => hb q (by simp [hq])) (by rw [List.append_assoc]; exact ho) (by omega) (by simp; omega); rw [List.append_assoc, show (((pre ++ [x, y]).length : Nat) : Int) = ((pre.length : Nat) : Int) + 2 by simp] at this; exact this
      rw [wide_Decode.l0, if_pos (by simp; omega), if_pos (by omega), w64 (x := ((pre.length : Nat) : Int) + 1) (by omega) (by omega), show ((pre.length : Nat) : Int) + 1 = ((pre.length + 1 : Nat) : Int) by omega, if_pos (by omega), if_pos (by simp; omega), r1, r2, or_u16 x y hx hy, or_u16 y x hy hx, w64 (x := ((pre.length : Nat) : Int) + 2) (by omega) (by omega)]; unfold joinB at next
      cases big with
      | true =>
        rw [if_pos rfl, if_pos (by omega)]
        exact next
      | false =>
        rw [if_neg (by decide), if_pos (by omega)]; exact next
def decW (l : List Int) (big ex : Bool) : List Int × Int × Int := if l.length % 2 = 0 then decFin ex (unB big l) else ([], (l.length : Int) - 1, 320)
theorem decode_f (k : Nat) (l : List Int) (big ex : Bool) (hb : bytes l) (hn : l.length ≤ 4194304) (hk : 4 * l.length + 100 ≤ k) : wide_Decode.f k l big ex = some (decW l big ex) := by
  unfold wide_Decode.f decW; by_cases h : l.length % 2 = 0; · have hl := un_len big (l.length / 2) l (by omega); have hu := un_u16 big (l.length / 2) l (by omega) hb; rw [if_pos (by omega), if_pos h]; have := decode_l0 big ex (unB big l) hu (by omega) (l.length / 2) k [] l [] (by omega) hb (by simp) (by omega) (by simp; omega); simpa using this
  · rw [if_neg (by omega), if_neg h, w64 (by omega) (by omega)]
def swB : List Int → List Int
  | x :: y :: r => y :: x :: swB r
  | _ => []
def gueB (l : List Int) : Bool × Bool := if l.getD 0 (-1) = 254 ∧ l.getD 1 (-1) = 255 then (true, true) else if l.getD 0 (-1) = 255 ∧ l.getD 1 (-1) = 254 then (false, true) else (false, false)
theorem guess_f (l : List Int) (hb : bytes l) : wide_Guess.f l = some (gueB l) := by
  unfold wide_Guess.f gueB; by_cases h : (l.length : Int) < 2
  · have h1 : l.getD 1 (-1) = -1 := by
      simp [List.getD_eq_getElem?_getD, List.getElem?_eq_none (show l.length ≤ 1 by omega)]
    rw [if_pos h, if_neg (by omega), if_neg (by omega)]
  · match l, hb, h with
    | [x], _, h => exact absurd (by simp) h
    | x :: y :: r, hb, h =>
      have hx := hb x (by simp); have hy := hb y (by simp); rw [if_neg h, if_pos (by simp; omega), if_pos (by simp; omega), rd0, rd1, or_u16 x y hx hy]; simp only [List.getD_cons_zero, List.getD_cons_succ]; by_cases a : x = 254 ∧ y = 255; · rw [if_pos (by omega), if_pos a]
      · rw [if_neg (by omega), if_neg a]; by_cases b : x = 255 ∧ y = 254; · rw [if_pos (by omega), if_pos b]
        · rw [if_neg (by omega), if_neg b]
end Go.Proofs.YtcdehlnkilcgaaaDoor.Pure
