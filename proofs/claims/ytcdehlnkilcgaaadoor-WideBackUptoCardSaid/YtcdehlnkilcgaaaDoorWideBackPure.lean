/- The law WideBack, over numbers alone. -/
import Derived.Test.YtcdehlnkilcgaaaDoorWideBackM14
import Derived.Test.YtcdehlnkilcgaaaDoorWideBackM12v
import Derived.Test.YtcdehlnkilcgaaaDoorWideBackQ
namespace Go.Proofs.YtcdehlnkilcgaaaDoor.Pure
open Go.RowKit Go.Proofs.YtcdehlnkilcgaaaDoor.Q Go.Proofs.YtcdehlnkilcgaaaDoorW.PrintWords
theorem own32_f (l : List Int) (h : l.length ≤ 16777216) : galleylaw32_own.f l = some l := by
  unfold galleylaw32_own.f; (simp); omega
theorem dec_wr (big ex : Bool) (us : List Int) (hu : u16s us) : decW (wr big us) big ex = decFin ex us := by
  unfold decW; rw [if_pos (by rw [wr_len]; omega), un_wr big us hu]
theorem enc_plain (l : List Int) (big ex : Bool) : encB l big false ex = wr big (textU ex l) := by
  unfold encB; rw [if_neg (by decide)]; rfl
/-- What is taken: the text whose units they are. -/
theorem read_ok (ex : Bool) (us : List Int) (hu : u16s us) (h : (readU ex us).2.2 = 0) : ∃ c, readU ex us = (c, 0, 0) ∧ bytes c ∧ textU ex c = us ∧ c.length ≤ 4 * us.length ∧ (ex = false → enc c = c) := by
  unfold readU at h ⊢; unfold textU
  cases ex with
  | true =>
    rw [if_pos rfl] at h ⊢; obtain ⟨c, e1, e2, e3, e4⟩ := back_ok _ us 0 [] (by omega) hu h; rw [List.nil_append] at e1
    exact ⟨c, e1, e2, by rw [if_pos rfl]; exact e3, e4, fun hh => by cases hh⟩
  | false =>
    rw [if_neg (by decide)] at h ⊢; obtain ⟨c, e1, _, e2, e3, _, e4⟩ := from_ok _ us 0 [] (by omega) hu h; rw [List.nil_append] at e1; refine ⟨c, e1, e2, by rw [if_neg (by decide)]; exact e3, e4, fun _ => ?_⟩; have := from_seen (us.length + 1) c 0 [] (by rw [e3]; omega); rw [e3, e1, List.nil_append] at this; exact (Prod.mk.inj this).1.symm
theorem backW_l0 (l1 : List Int) (a2 : Bool) (h0 : l1.length ≤ 1048576) (hb : bytes l1) : ∀ (d k : Nat) (x : Int), 0 ≤ x → x + d = 2 → d + 20 * l1.length + 200 ≤ k → galleylaw32_WideBack.l0 k l1 a2 x = some true := by
  intro d
  induction d with
  | zero =>
    intro k x h1 h2 hk; obtain ⟨k, rfl⟩ : ∃ m, k = m + 1 := ⟨k - 1, by omega⟩
    rw [galleylaw32_WideBack.l0, if_neg (by omega)]
  | succ d ih =>
    intro k x h1 h2 hk; obtain ⟨k, rfl⟩ : ∃ m, k = m + 1 := ⟨k - 1, by omega⟩
    have next : galleylaw32_WideBack.l0 k l1 a2 (wrap64 (x + 1)) = some true := by
      rw [w64 (by omega) (by omega)]; exact ih k (x + 1) (by omega) (by omega) (by omega)
    rw [galleylaw32_WideBack.l0, if_pos (by omega), own32_f l1 (by omega), Option.bind_some, decode_f k l1 a2 (x == 1) hb (by omega) (by omega), Option.bind_some]; by_cases h : l1.length % 2 = 0
    · have hl := un_len a2 (l1.length / 2) l1 (by omega); have hu := un_u16 a2 (l1.length / 2) l1 (by omega) hb; have hw := wr_un a2 (l1.length / 2) l1 (by omega) hb; (have e : decW l1 a2 (x == 1) = decFin (x == 1) (unB a2 l1) := by unfold decW; rw [if_pos h]); rw [e]; unfold decFin; by_cases hz : (readU (x == 1) (unB a2 l1)).2.2 = 0
      · obtain ⟨c, c1, c2, c3, c4, c5⟩ := read_ok (x == 1) (unB a2 l1) hu hz; (have he : encB c a2 false (x == 1) = l1 := by rw [enc_plain, c3, hw]); rw [if_pos hz, c1, if_pos rfl, encode_f k c a2 false (x == 1) c2 (by omega) (by omega), Option.bind_some, he, if_pos rfl]; by_cases hx : x = 0; · have hv := valid_true c c2 (by omega) (c5 (by rw [hx]; rfl)); rw [if_pos hx, own32_f c (by omega), Option.bind_some, hv, Option.bind_some, if_pos rfl, next]
        · rw [if_neg hx, next]
      · have hbd := read_bd (x == 1) (unB a2 l1) hz; rw [if_neg hz, if_neg hz]; (dsimp only); rw [if_pos (show ((([] : List Int).length : Nat) : Int) = 0 by rfl), if_neg (by omega), if_neg (by omega), next]
    · (have e : decW l1 a2 (x == 1) = ([], (l1.length : Int) - 1, 320) := by unfold decW; rw [if_neg h]); rw [e]; (dsimp only); rw [if_neg (show ¬ ((320 : Int) = 0) by decide), if_pos (show ((([] : List Int).length : Nat) : Int) = 0 by rfl), if_neg (by omega), if_neg (by omega), next]
theorem WideBack (l0 l1 : List Int) (a2 : Bool) (h0 : l0.length ≤ 1048576) (hb : ∀ x ∈ l0, 0 ≤ x ∧ x ≤ 255) (h1 : l1.length ≤ 1048576) (hb1 : ∀ x ∈ l1, 0 ≤ x ∧ x ≤ 255) : ∃ k, galleylaw32_WideBack.f k l0 l1 a2 = some true := by
  refine ⟨30 * l0.length + 30 * l1.length + 400, ?_⟩; obtain ⟨k, hk⟩ : ∃ k, 30 * l0.length + 30 * l1.length + 400 = k + 1 := ⟨30 * l0.length + 30 * l1.length + 399, by omega⟩; rw [hk]; have hw : galleylaw32_awake.f (k + 1) = some true := at_rounds galleylaw32_awake.mono (by omega) (show galleylaw32_awake.f 40 = some true by kernel_rfl); have lx := tells_len exact exact_len l0; have ly := tells_len seen seen_len l0; have ux := tells_u16 exact exact_u16 l0 hb; have uy := tells_u16 seen (fun m _ _ => seen_u16 m) l0 hb; (have ex : encB l0 a2 false true = wr a2 (tells exact l0) := by rw [enc_plain]; unfold textU; rw [if_pos rfl]); (have ey : encB l0 a2 false false = wr a2 (tells seen l0) := by rw [enc_plain]; unfold textU; rw [if_neg (by decide)]); have wx := wr_len a2 (tells exact l0); have wy := wr_len a2 (tells seen l0)
  have dx : decW (wr a2 (tells exact l0)) a2 true = (l0, 0, 0) := by
    rw [dec_wr a2 true _ ux]; unfold decFin readU; rw [if_pos rfl, back_exact _ l0 0 [] hb (by omega), if_pos rfl, List.nil_append]
  have dy : decW (wr a2 (tells seen l0)) a2 false = (enc l0, 0, 0) := by
    rw [dec_wr a2 false _ uy]; unfold decFin readU; rw [if_neg (show ¬ (false = true) by decide), from_seen _ l0 0 [] (by omega), if_pos rfl, List.nil_append]; rfl
  have hv := valid_f l0 hb (by omega); have hl := enc_len1 l0; have hv2 := valid_true (enc l0) (enc_bytes1 l0) (by omega) (enc_enc l0); unfold galleylaw32_WideBack.f; rw [hw, Option.bind_some, if_pos rfl, own32_f l0 (by omega), Option.bind_some, encode_f _ l0 a2 false true hb (by omega) (by omega), Option.bind_some, ex, decode_f _ (wr a2 (tells exact l0)) a2 true (wr_bytes a2 _ ux) (by omega) (by omega), Option.bind_some, Option.bind_some, encode_f _ l0 a2 false false hb (by omega) (by omega), Option.bind_some, ey, decode_f _ (wr a2 (tells seen l0)) a2 false (wr_bytes a2 _ uy) (by omega) (by omega), Option.bind_some, dx, dy, if_pos rfl, if_pos rfl, if_pos rfl, Option.bind_some, hv, Option.bind_some, bne_self_eq_false, if_neg (by decide), hv2, Option.bind_some, galleylaw32_WideBack.j0, if_neg (by decide)]; exact backW_l0 l1 a2 h1 hb1 2 k 0 (by omega) (by omega) (by omega)
end Go.Proofs.YtcdehlnkilcgaaaDoor.Pure
