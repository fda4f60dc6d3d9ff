/- Plain: the reference of package wide. -/
import Derived.Test.YtcdehlnkilcgaaaDoorWideAnswersM15
import Derived.Test.YtcdehlnkilcgaaaDoorWideAnswersQq
namespace Go.Proofs.YtcdehlnkilcgaaaDoor.Pure
open Go.RowKit Go.Proofs.YtcdehlnkilcgaaaDoor.Q Go.Proofs.YtcdehlnkilcgaaaDoorW.PrintWords
theorem put_f (out : List Int) (u : Int) (big : Bool) (h0 : 0 ≤ u) (h1 : u ≤ 65535) (ho : out.length ≤ 33554432) : galleyref32_put.f out u big = some (out ++ pairB big u) := by
  have e1 : IntKind.u16.wrap (Int.tdiv u 256) % 256 = u / 256 := by
    rw [Int.tdiv_eq_ediv_of_nonneg h0, w16 (by omega) (by omega)]; omega
  have e2 : Int.tmod u 256 % 256 = u % 256 := by
    rw [Int.tmod_eq_emod_of_nonneg h0]; omega
  unfold galleyref32_put.f pairB; rw [e1, e2]
  cases big with
  | true => rw [if_pos rfl, if_pos rfl, Option.bind_some, if_pos (by simp; omega)]
  | false => rw [if_neg (by decide), if_neg (by decide), Option.bind_some, if_pos (by simp; omega)]
theorem refEncode_l0 (big : Bool) : ∀ (us : List Int) (k : Nat) (pre out : List Int), u16s us → us.length + 1 ≤ k → out.length + 2 * us.length ≤ 33554432 → pre.length + us.length ≤ 16777216 →
    galleyref32_Encode.l0 k big (pre ++ us) out ((pre.length : Nat) : Int) = some (out ++ wr big us) := by
  intro us
  induction us with
  | nil =>
    intro k pre out _ hk _ _; obtain ⟨k, rfl⟩ : ∃ m, k = m + 1 := ⟨k - 1, by omega⟩; rw [galleyref32_Encode.l0, if_neg (by simp)]
    simp [wr]
  | cons u us ih =>
    intro k pre out hu hk ho hp; obtain ⟨k, rfl⟩ : ∃ m, k = m + 1 := ⟨k - 1, by omega⟩; simp only [List.length_cons] at hk ho hp; have hx := hu u (by simp); have h2 := pair_len big u; have := ih k (pre ++ [u]) (out ++ pairB big u) (fun x hx => hu x (by simp [hx])) (by omega) (by simp; omega) (by simp; omega); rw [List.append_assoc, show (((pre ++ [u]).length : Nat) : Int) = ((pre.length : Nat) : Int) + 1 by simp, List.append_assoc] at this; rw [galleyref32_Encode.l0, if_pos (by simp; omega), if_pos (by omega), rd_mid, put_f out u big hx.1 hx.2 (by omega), Option.bind_some, w64 (by omega) (by omega), wr_cons]; exact this
theorem ref_encode_f (k : Nat) (l : List Int) (big bom ex : Bool) (hb : bytes l) (hn : l.length ≤ 1048576) (hk : 2 * l.length + 20 ≤ k) : galleyref32_Encode.f k l big bom ex = some (encB l big bom ex) := by
  obtain ⟨k, rfl⟩ : ∃ m, k = m + 2 := ⟨k - 2, by omega⟩; have hx : galleyref03_To.f (k + 2) l = some (tells seen l) := ref_to_f (k + 2) l hb (by omega) (by omega); have hy : galleyref03_ToExact.f (k + 2) l = some (tells exact l) := ref_toExact_f (k + 2) l hb (by omega) (by omega); have hl := text_len ex l; have hu := text_u16 ex l hb
  have j0 : galleyref32_Encode.j0 (k + 2) big bom (textU ex l) = some (encB l big bom ex) := by
    have h2 := pair_len big 65279; unfold encB; rw [galleyref32_Encode.j0, put_f [] 65279 big (by omega) (by omega) (by simp), Option.bind_some, List.nil_append]
    cases bom with
    | true =>
      rw [if_pos rfl, if_pos rfl, galleyref32_Encode.j1]; have := refEncode_l0 big (textU ex l) k [] (pairB big 65279) hu (by omega) (by omega) (by simp; omega)
      simpa using this
    | false =>
      rw [if_neg (by decide), if_neg (by decide), galleyref32_Encode.j1]; have := refEncode_l0 big (textU ex l) k [] [] hu (by omega) (by simp; omega) (by simp; omega); simpa using this
  unfold galleyref32_Encode.f; rw [hx, Option.bind_some, hy, Option.bind_some]
  cases ex with
  | true => rw [if_pos rfl]; exact j0
  | false => rw [if_neg (by decide)]; exact j0
theorem ref_join_u16 (x y : Int) (hx : 0 ≤ x ∧ x ≤ 255) (hy : 0 ≤ y ∧ y ≤ 255) : IntKind.u16.wrap (wrap64 (wrap64 (256 * wrap64 x) + wrap64 y)) = 256 * x + y := by
  rw [w64 (x := x) (by omega) (by omega), w64 (x := y) (by omega) (by omega), w64 (x := 256 * x) (by omega) (by omega), w64 (by omega) (by omega), w16 (by omega) (by omega)]
theorem refDecode_l0 (big ex : Bool) (us : List Int) (hu : u16s us) (hn : us.length ≤ 2097152) : ∀ (n k : Nat) (pre rest out : List Int), rest.length = 2 * n → bytes rest → out ++ unB big rest = us → n + 3 * us.length + 70 ≤ k → pre.length + rest.length ≤ 16777216 →
    galleyref32_Decode.l0 k (pre ++ rest) big ex out ((pre.length : Nat) : Int) = some (decFin ex us) := by
  intro n
  induction n with
  | zero =>
    intro k pre rest out hr _ ho hk _; obtain ⟨k, rfl⟩ : ∃ m, k = m + 1 := ⟨k - 1, by omega⟩; have : rest = [] := List.eq_nil_of_length_eq_zero (by omega); subst this; rw [unB, List.append_nil] at ho
    · subst ho; rw [List.append_nil, galleyref32_Decode.l0, if_neg (by omega)]; have hbd := read_bd ex out; unfold decFin; unfold readU at hbd ⊢
      cases ex with
      | true =>
        rw [if_pos rfl] at hbd; rw [if_pos rfl, if_pos rfl, ref_exact_f k out hu (by omega) (by omega), Option.bind_some]; by_cases h : (backP (out.length + 1) out 0 []).2.2 = 0; · rw [if_pos h, if_pos h]
        · have := hbd h
          rw [if_neg h, if_neg h, w64 (by omega) (by omega)]
      | false =>
        rw [if_neg (by decide)] at hbd; rw [if_neg (show ¬ (false = true) by decide), if_neg (show ¬ (false = true) by decide), ref_from_f k out hu (by omega) (by omega), Option.bind_some]; by_cases h : (fromP (out.length + 1) out 0 []).2.2 = 0; · rw [if_pos h, if_pos h]
        · have := hbd h; rw [if_neg h, if_neg h, w64 (by omega) (by omega)]
    · intro x y r h
      cases h
  | succ n ih =>
    intro k pre rest out hr hb ho hk hp; obtain ⟨k, rfl⟩ : ∃ m, k = m + 1 := ⟨k - 1, by omega⟩
    match rest, hr, hb, ho, hp with
    | x :: y :: r, hr, hb, ho, hp =>
      simp only [List.length_cons] at hr hp; have hx := hb x (by simp); have hy := hb y (by simp); obtain ⟨r1, r2⟩ := rdD pre x y r; rw [unB] at ho
      have hl : out.length + 1 ≤ us.length := by
        rw [← ho]; simp
      have next : galleyref32_Decode.l0 k (pre ++ x :: y :: r) big ex (out ++ [joinB big x y]) (((pre.length : Nat) : Int) + 2) = some (decFin ex us) := by
        have := ih k (pre ++ [x, y]) r (out ++ [joinB big x y]) (by omega) (fun q hq => hb q (by simp [hq])) (by rw [List.append_assoc]; exact ho) (by omega) (by simp; omega); rw [List.append_assoc, show (((pre ++ [x, y]).length : Nat) : Int) = ((pre.length : Nat) : Int) + 2 by simp] at this; exact this
      rw [galleyref32_Decode.l0, if_pos (by simp; omega), if_pos (by omega), w64 (x := ((pre.length : Nat) : Int) + 1) (by omega) (by omega), show ((pre.length : Nat) : Int) + 1 = ((pre.length + 1 : Nat) : Int) by omega, if_pos (by omega), if_pos (by simp; omega), r1, r2, ref_join_u16 x y hx hy, ref_join_u16 y x hy hx, w64 (x := ((pre.length : Nat) : Int) + 2) (by omega) (by omega)]; unfold joinB at next
      cases big with
      | true =>
        rw [if_pos rfl, if_pos (by omega)]
        exact next
      | false =>
        rw [if_neg (by decide), if_pos (by omega)]; exact next
theorem ref_decode_f (k : Nat) (l : List Int) (big ex : Bool) (hb : bytes l) (hn : l.length ≤ 4194304) (hk : 4 * l.length + 100 ≤ k) : galleyref32_Decode.f k l big ex = some (decW l big ex) := by
  unfold galleyref32_Decode.f decW; by_cases h : l.length % 2 = 0; · have hl := un_len big (l.length / 2) l (by omega); have hu := un_u16 big (l.length / 2) l (by omega) hb; rw [if_pos (by omega), if_pos h]; have := refDecode_l0 big ex (unB big l) hu (by omega) (l.length / 2) k [] l [] (by omega) hb (by simp) (by omega) (by simp; omega); simpa using this
  · rw [if_neg (by omega), if_neg h, w64 (by omega) (by omega)]
theorem refSwap_l0 : ∀ (n k : Nat) (pre rest out : List Int), rest.length = 2 * n → pre.length + rest.length ≤ 16777216 → out.length + rest.length ≤ 16777216 → n + 1 ≤ k →
    galleyref32_Swap.l0 k (pre ++ rest) out ((pre.length : Nat) : Int) = some (out ++ swB rest, 0) := by
  intro n
  induction n with
  | zero =>
    intro k pre rest out hr hn ho hk; obtain ⟨k, rfl⟩ : ∃ m, k = m + 1 := ⟨k - 1, by omega⟩; have : rest = [] := List.eq_nil_of_length_eq_zero (by omega); subst this; rw [galleyref32_Swap.l0, if_neg (by simp)]
    simp [swB]
  | succ n ih =>
    intro k pre rest out hr hn ho hk; obtain ⟨k, rfl⟩ : ∃ m, k = m + 1 := ⟨k - 1, by omega⟩
    match rest, hr, hn, ho with
    | x :: y :: r, hr, hn, ho =>
      simp only [List.length_cons] at hr hn ho; obtain ⟨r1, r2⟩ := rdD pre x y r; have := ih k (pre ++ [x, y]) r (out ++ [y, x]) (by omega) (by simp; omega) (by simp; omega) (by omega); rw [List.append_assoc, List.append_assoc, show (((pre ++ [x, y]).length : Nat) : Int) = ((pre.length : Nat) : Int) + 2 by simp] at this; rw [galleyref32_Swap.l0, if_pos (by simp; omega), w64 (x := ((pre.length : Nat) : Int) + 1) (by omega) (by omega), show ((pre.length : Nat) : Int) + 1 = ((pre.length + 1 : Nat) : Int) by omega, if_pos (by omega), if_pos (by simp; omega), if_pos (by omega), Option.bind_some, r1, r2, if_pos (by simp; omega), w64 (x := ((pre.length : Nat) : Int) + 2) (by omega) (by omega)]; exact this
theorem ref_swap_f (k : Nat) (l : List Int) (hn : l.length ≤ 8388608) (hk : l.length + 1 ≤ k) : galleyref32_Swap.f k l = some (swapW l) := by
  unfold galleyref32_Swap.f swapW; by_cases h : l.length % 2 = 0; · rw [if_pos (by omega), if_pos h]; have := refSwap_l0 (l.length / 2) k [] l [] (by omega) (by simp; omega) (by simp; omega) (by omega); simpa using this
  · rw [if_neg (by omega), if_neg h]
theorem ref_guess_f (l : List Int) : galleyref32_Guess.f l = some (gueB l) := by
  unfold galleyref32_Guess.f gueB; by_cases h : (l.length : Int) < 2
  · have h1 : l.getD 1 (-1) = -1 := by
      simp [List.getD_eq_getElem?_getD, List.getElem?_eq_none (show l.length ≤ 1 by omega)]
    rw [if_pos h, if_neg (by omega), if_neg (by omega)]
  · match l, h with
    | [], h => simp at h
    | [_], h => simp at h
    | x :: y :: r, h =>
      (have l0 : (0 : Int) < ((x :: y :: r).length : Int) := by omega); (have l1 : (1 : Int) < ((x :: y :: r).length : Int) := by omega); rw [if_neg h, if_pos l0, rd0, rd1, if_pos l1, if_pos l1]; simp only [List.getD_cons_zero, List.getD_cons_succ]; by_cases a : x = 254
      · rw [if_pos a]; by_cases b : y = 255; · rw [if_pos b, if_pos ⟨a, b⟩]
        · rw [if_neg b, if_neg (by omega), if_neg (by omega), if_neg (by omega)]
      · rw [if_neg a, if_neg (show ¬ (x = 254 ∧ y = 255) by omega)]; by_cases c : x = 255
        · rw [if_pos c]; by_cases d : y = 254; · rw [if_pos ⟨c, d⟩, d]; rfl
          · rw [if_neg (show ¬ (x = 255 ∧ y = 254) by omega)]; simp [d]
        · rw [if_neg c, if_neg (show ¬ (x = 255 ∧ y = 254) by omega)]
end Go.Proofs.YtcdehlnkilcgaaaDoor.Pure
