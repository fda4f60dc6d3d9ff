/- Plain: the model's encodings are these; the loop of UnitsBack. -/
import Derived.Test.YtcdehlnkilcgaaaDoorM11
import Derived.Test.YtcdehlnkilcgaaaDoorM6
import Derived.Test.YtcdehlnkilcgaaaDoorQUnitsBack
namespace Go.Proofs.YtcdehlnkilcgaaaDoor.Pure
open Go.RowKit Go.Proofs.YtcdehlnkilcgaaaDoor.Q Go.Proofs.YtcdehlnkilcgaaaDoorW.PrintWords
def u8s (l : List Int) : List UInt8 := l.map (fun n => UInt8.ofNat n.toNat)
theorem encode_encP (r : Int) (hs : scalar r) : (Utf8.encode r).toList = u8s (encP r) := by
  unfold scalar at hs
  have hv : Utf8.valid r = true := by
    unfold Utf8.valid
    simp
    omega
  unfold Utf8.encode u8s encP
  simp only [hv, if_true]
  by_cases a1 : r < 128
  · rw [if_pos (show r.toNat < 128 by omega), if_pos a1, ByteArray.toList_mk]
    rfl
  · rw [if_neg (show ¬ r.toNat < 128 by omega), if_neg a1]
    by_cases a2 : r < 2048
    · rw [if_pos (show r.toNat < 2048 by omega), if_pos a2, ByteArray.toList_mk]
      simp only [List.map_cons, List.map_nil]
      rw [show (192 + r / 64).toNat = 192 + r.toNat / 64 by omega, show (128 + r % 64).toNat = 128 + r.toNat % 64 by omega]
    · rw [if_neg (show ¬ r.toNat < 2048 by omega), if_neg a2, if_neg hs.2.2]
      by_cases a3 : r < 65536
      · rw [if_pos (show r.toNat < 65536 by omega), if_pos a3, ByteArray.toList_mk]
        simp only [List.map_cons, List.map_nil]
        rw [show (224 + r / 4096).toNat = 224 + r.toNat / 4096 by omega, show (128 + r / 64 % 64).toNat = 128 + r.toNat / 64 % 64 by omega, show (128 + r % 64).toNat = 128 + r.toNat % 64 by omega]
      · rw [if_neg (show ¬ r.toNat < 65536 by omega), if_neg a3, ByteArray.toList_mk]
        simp only [List.map_cons, List.map_nil]
        rw [show (240 + r / 262144).toNat = 240 + r.toNat / 262144 by omega, show (128 + r / 4096 % 64).toNat = 128 + r.toNat / 4096 % 64 by omega, show (128 + r / 64 % 64).toNat = 128 + r.toNat / 64 % 64 by omega, show (128 + r % 64).toNat = 128 + r.toNat % 64 by omega]
theorem toList_app (a b : ByteArray) : (a ++ b).toList = a.toList ++ b.toList := by
  rw [ByteArray.toList_eq, ByteArray.toList_eq, ByteArray.toList_eq, ByteArray.data_append, Array.toList_append]
theorem runesBytes_acc : ∀ (R : List Int) (s : ByteArray), (∀ r ∈ R, scalar r) → (R.foldl (fun r n => r ++ Utf8.encode n) s).toList = s.toList ++ u8s (R.flatMap encP) := by
  intro R
  induction R with
  | nil => intro s _; simp [u8s]
  | cons r R ih =>
    intro s hR
    rw [List.foldl_cons, ih _ (fun x hx => hR x (by simp [hx])), toList_app, encode_encP r (hR r (by simp))]
    simp [u8s]
theorem valid_text (l : List Int) (hb : bytes l) : (strOfNums (tells (fun s => encP (run s)) l)).toList = (runesBytes (runesOf l)).toList := by
  have hr : runesOf l = (sufs (l.length + 1) l).map run := by
    unfold runesOf
    rw [runes_sufs l hb _ 0 (by omega), List.drop_zero, sufs_fuel l.length (l.length + 1) l (by omega) (by omega)]
  rw [hr]
  unfold runesBytes
  rw [runesBytes_acc _ _ (by
    intro r hr
    obtain ⟨s, _, rfl⟩ := List.mem_map.1 hr
    exact run_scalar s), str_list]
  rw [List.flatMap_map, show ByteArray.empty.toList = [] by rw [ByteArray.toList_eq]; rfl]
  rfl
theorem rd_app (a b : List Int) (j : Nat) : rd (a ++ b) (((a.length + j : Nat) : Int)) = b.getD j 0 := by
  unfold rd
  rw [Int.toNat_natCast]
  simp [List.getD_eq_getElem?_getD, List.getElem?_append_right]
/-- The loop over the units of one step. -/
theorem back_l1 (x0 x8 plain : List Int) (pre post : List S61) (px py tx ty : List Int) (s : S61) (a b : List Int) (pl : Int) (hl : a.length = b.length) (hxy : px.length = py.length) (he : (decide (a = b)) = s.f2) (hd : s.f2 = false → a.length = 1)
    (hr : 0 ≤ s.f0 ∧ s.f0 ≤ 1114111) (hn : px.length + a.length ≤ 16777216) (hp : pre.length ≤ 16777216) (hpl : plain.length ≤ 16777216) :
    ∀ (d k j : Nat), j + d = a.length → d + 2 ≤ k →
    ∃ q, k = q + d + 1 ∧ galleylaw03_UnitsBack.l1 k x0 (px ++ (a ++ tx)) (py ++ (b ++ ty)) x8 (pre ++ s :: post) ((px.length : Nat) : Int) pl plain ((pre.length : Nat) : Int) ((a.length : Nat) : Int) (((px.length + j : Nat)) : Int) =
      galleylaw03_UnitsBack.l0 q x0 (px ++ (a ++ tx)) (py ++ (b ++ ty)) x8 (pre ++ s :: post) (((px.length + a.length : Nat)) : Int) (wrap64 (pl + s.f1)) (plain ++ encP s.f0) (((pre.length + 1 : Nat)) : Int) := by
  intro d
  induction d with
  | zero =>
    intro k j hj hk
    obtain ⟨k, rfl⟩ : ∃ m, k = m + 1 := ⟨k - 1, by omega⟩
    refine ⟨k, by omega, ?_⟩
    have hle := (encP_len s.f0).2
    rw [galleylaw03_UnitsBack.l1, w64 (x := ((px.length : Nat) : Int) + ((a.length : Nat) : Int)) (by omega) (by omega), if_neg (by omega), if_pos (by omega), if_pos (by simp; omega), rdT, bytes_f k (by omega) _ hr.1 hr.2, Option.bind_some, if_pos (by omega), w64 (x := ((pre.length : Nat) : Int) + 1) (by omega) (by omega), show ((px.length : Nat) : Int) + ((a.length : Nat) : Int) = ((px.length + a.length : Nat) : Int) by omega, show ((pre.length : Nat) : Int) + 1 = ((pre.length + 1 : Nat) : Int) by omega]
  | succ d ih =>
    intro k j hj hk
    obtain ⟨k, rfl⟩ : ∃ m, k = m + 1 := ⟨k - 1, by omega⟩
    have e1 : rd (px ++ (a ++ tx)) (((px.length + j : Nat)) : Int) = (a ++ tx).getD j 0 := rd_app px (a ++ tx) j
    have e2 : rd (py ++ (b ++ ty)) (((px.length + j : Nat)) : Int) = (b ++ ty).getD j 0 := by rw [hxy]; exact rd_app py (b ++ ty) j
    have e3 : (a ++ tx).getD j 0 = a.getD j 0 := by simp [List.getD_eq_getElem?_getD, List.getElem?_append_left (show j < a.length by omega)]
    have e4 : (b ++ ty).getD j 0 = b.getD j 0 := by simp [List.getD_eq_getElem?_getD, List.getElem?_append_left (show j < b.length by omega)]
    have key : (((a.getD j 0) == (b.getD j 0)) != s.f2) = false := by
      rw [← he]
      by_cases hab : a = b
      · subst hab
        simp
      · have hf : s.f2 = false := by rw [← he]; exact decide_eq_false hab
        have h1 := hd hf
        rw [decide_eq_false hab]
        have hj0 : j = 0 := by omega
        subst hj0
        match a, b, h1, hl, hab with
        | [x], [y], _, _, hab =>
          have : ¬ x = y := fun e => hab (by rw [e])
          simp [this]
    obtain ⟨q, hq, hi⟩ := ih k (j + 1) (by omega) (by omega)
    refine ⟨q, by omega, ?_⟩
    rw [galleylaw03_UnitsBack.l1, w64 (x := ((px.length : Nat) : Int) + ((a.length : Nat) : Int)) (by omega) (by omega), if_pos (by omega), if_pos (by omega), if_pos (by simp; omega), if_pos (by simp; omega), if_pos (by omega), if_pos (by simp; omega), rdT, e1, e2, e3, e4, key, if_neg (by decide), w64 (x := (((px.length + j : Nat)) : Int) + 1) (by omega) (by omega), show (((px.length + j : Nat)) : Int) + 1 = ((px.length + (j + 1) : Nat) : Int) by omega, hi]
theorem exact_seen (m : List Int) (hb : bytes m) (hm : m ≠ []) : (seen m).length = (exact m).length ∧ decide (seen m = exact m) = (stp m).f2 ∧ ((stp m).f2 = false → (seen m).length = 1) := by
  by_cases h : lng m = 0
  · have hx := head_bad m hb hm h
    have e : seen m = [65533] := by
      unfold seen
      rw [run_bad m h]
      rfl
    rw [e, exact_bad m h]
    refine ⟨rfl, ?_, fun _ => rfl⟩
    have e2 : (stp m).f2 = false := by simp [stp, h]
    rw [e2]
    apply decide_eq_false
    intro e
    have := List.cons.inj e
    omega
  · have e : exact m = seen m := by rw [exact_good m h]; rfl
    have e2 : (stp m).f2 = true := by simp [stp, h]
    rw [e, e2]
    exact ⟨rfl, decide_eq_true rfl, fun hh => by cases hh⟩
theorem two_units (r : Int) (h : r ≤ 1114111) : (unitsOf r).length = if 65535 < r then 2 else 1 := by
  unfold unitsOf
  by_cases a : 65535 < r
  · rw [if_pos ⟨a, h⟩, if_pos a]; rfl
  · rw [if_neg (fun e => a e.1), if_neg a]; rfl
theorem back_l0 (x0 x8 : List Int) (hx0 : x0.length ≤ 1048576) (hv : ((step_Valid.f ([] ++ x0)).bind fun t => (some (((strOfNums x8).toList == (strOfNums x0).toList) == t) : Option Bool)) = some true) :
    ∀ (f k : Nat) (m px py : List Int) (pre : List S61) (plain : List Int) (pl : Nat), bytes m → m.length ≤ f → px.length = py.length → pl + m.length = x0.length → plain ++ tells (fun s => encP (run s)) m = x8 → 5 * f + 20 ≤ k →
    px.length + 2 * m.length ≤ 4194304 → pre.length + m.length ≤ 4194304 → plain.length + 4 * m.length ≤ 8388608 →
    galleylaw03_UnitsBack.l0 k x0 (px ++ tells seen m) (py ++ tells exact m) x8 (pre ++ (sufs f m).map stp) ((px.length : Nat) : Int) (pl : Int) plain ((pre.length : Nat) : Int) = some true := by
  intro f
  have fin : ∀ (k : Nat) (px py : List Int) (pre : List S61) (plain : List Int) (pl : Nat), pl = x0.length → plain = x8 → galleylaw03_UnitsBack.l0 (k + 1) x0 px py x8 pre ((px.length : Nat) : Int) (pl : Int) plain ((pre.length : Nat) : Int) = some true := by
    intro k px py pre plain pl hp hpl
    subst hpl
    rw [galleylaw03_UnitsBack.l0, if_neg (by omega), if_pos rfl, if_pos (by omega), if_pos rfl, Option.bind_some, if_pos (by simp; omega)]
    exact hv
  induction f with
  | zero =>
    intro k m px py pre plain pl _ hf hxy hpl hplain hk _ _ _
    obtain ⟨k, rfl⟩ : ∃ m, k = m + 1 := ⟨k - 1, by omega⟩
    have hm : m = [] := List.eq_nil_of_length_eq_zero (by omega)
    subst hm
    rw [tells_nil, List.append_nil] at hplain
    rw [tells_nil, tells_nil, List.append_nil, List.append_nil, sufs, List.map_nil, List.append_nil]
    exact fin k px py pre plain pl (by simpa using hpl) hplain
  | succ f ih =>
    intro k m px py pre plain pl hb hf hxy hpl hplain hk h1 h2 h3
    obtain ⟨k, rfl⟩ : ∃ m, k = m + 2 := ⟨k - 2, by omega⟩
    by_cases hm : m = []
    · subst hm
      rw [tells_nil, List.append_nil] at hplain
      rw [tells_nil, tells_nil, List.append_nil, List.append_nil, sufs, if_pos rfl, List.map_nil, List.append_nil]
      exact fin (k + 1) px py pre plain pl (by simpa using hpl) hplain
    · obtain ⟨s1, s2, s3⟩ := exact_seen m hb hm
      have hw1 := wid_pos m
      have hw2 := wid_le m hm
      have hbm : bytes (m.drop (wid m)) := fun x hx => hb x (List.mem_of_mem_drop hx)
      have hr := run_bd m hb
      have hsl := seen_len m
      have hul := (units_len (run m)).1
      have hn : (seen m).length = if 65535 < run m then 2 else 1 := two_units (run m) hr.2
      have hle := (encP_len (run m)).2
      rw [tells_step _ m hm] at hplain
      rw [tells_step seen m hm, tells_step exact m hm, sufs, if_neg hm, List.map_cons]
      obtain ⟨q, hq, hl⟩ := back_l1 x0 x8 plain pre ((sufs f (m.drop (wid m))).map stp) px py (tells seen (m.drop (wid m))) (tells exact (m.drop (wid m))) (stp m) (seen m) (exact m) (pl : Int) s1 hxy s2 s3 hr (by omega) (by omega) (by omega) (seen m).length k 0 (by omega) (by omega)
      have step : galleylaw03_UnitsBack.l0 (k + 2) x0 (px ++ (seen m ++ tells seen (m.drop (wid m)))) (py ++ (exact m ++ tells exact (m.drop (wid m)))) x8 (pre ++ stp m :: (sufs f (m.drop (wid m))).map stp) ((px.length : Nat) : Int) (pl : Int) plain ((pre.length : Nat) : Int) =
          galleylaw03_UnitsBack.j2 (k + 1) x0 (px ++ (seen m ++ tells seen (m.drop (wid m)))) (py ++ (exact m ++ tells exact (m.drop (wid m)))) x8 (pre ++ stp m :: (sufs f (m.drop (wid m))).map stp) ((px.length : Nat) : Int) (pl : Int) plain ((pre.length : Nat) : Int) (((seen m).length : Nat) : Int) := by
        rw [galleylaw03_UnitsBack.l0, if_pos (by simp; omega), if_pos (by omega), rdT, hn]
        by_cases h6 : 65535 < run m
        · rw [if_pos (show (stp m).f0 > 65535 from h6), if_pos h6]; rfl
        · rw [if_neg (show ¬ (stp m).f0 > 65535 from h6), if_neg h6]; rfl
      rw [step, galleylaw03_UnitsBack.j2, w64 (by omega) (by omega), if_neg (by simp only [List.length_append]; omega)]
      rw [show ((px.length + 0 : Nat) : Int) = ((px.length : Nat) : Int) by rfl] at hl
      rw [hl]
      have e1 : wrap64 ((pl : Int) + (stp m).f1) = ((pl + wid m : Nat) : Int) := by
        show wrap64 ((pl : Int) + ((wid m : Nat) : Int)) = _
        rw [w64 (by omega) (by omega)]
        omega
      rw [e1]
      have hi := ih q (m.drop (wid m)) (px ++ seen m) (py ++ exact m) (pre ++ [stp m]) (plain ++ encP (run m)) (pl + wid m) hbm (by simp; omega) (by simp; omega) (by simp; omega) (by rw [List.append_assoc]; exact hplain) (by omega) (by simp; omega) (by simp; omega) (by simp; omega)
      rw [List.append_assoc, List.append_assoc, List.append_assoc, List.length_append, List.length_append] at hi
      exact hi
end Go.Proofs.YtcdehlnkilcgaaaDoor.Pure
