/- Plain: the model's encodings are these; what Valid asks. -/
import Derived.Test.YtcdehlnkilcgaaaDoorWideBackM11
import Derived.Test.YtcdehlnkilcgaaaDoorWideBackM6
import Derived.Test.YtcdehlnkilcgaaaDoorWideBackQm
namespace Go.Proofs.YtcdehlnkilcgaaaDoor.Pure
open Go.RowKit Go.Proofs.YtcdehlnkilcgaaaDoor.Q Go.Proofs.YtcdehlnkilcgaaaDoorW.PrintWords
def u8s (l : List Int) : List UInt8 := l.map (fun n => UInt8.ofNat n.toNat)
theorem encode_encP (r : Int) (hs : scalar r) : (Utf8.encode r).toList = u8s (encP r) := by
  unfold scalar at hs
  have hv : Utf8.valid r = true := by
    unfold Utf8.valid; (simp); omega
  unfold Utf8.encode u8s encP; simp only [hv, if_true]; by_cases a1 : r < 128; · rw [if_pos (show r.toNat < 128 by omega), if_pos a1, ByteArray.toList_mk]; rfl
  · rw [if_neg (show ¬ r.toNat < 128 by omega), if_neg a1]; by_cases a2 : r < 2048; · rw [if_pos (show r.toNat < 2048 by omega), if_pos a2, ByteArray.toList_mk]; simp only [List.map_cons, List.map_nil]; rw [show (192 + r / 64).toNat = 192 + r.toNat / 64 by omega, show (128 + r % 64).toNat = 128 + r.toNat % 64 by omega]
    · rw [if_neg (show ¬ r.toNat < 2048 by omega), if_neg a2, if_neg hs.2.2]; by_cases a3 : r < 65536; · rw [if_pos (show r.toNat < 65536 by omega), if_pos a3, ByteArray.toList_mk]; simp only [List.map_cons, List.map_nil]; rw [show (224 + r / 4096).toNat = 224 + r.toNat / 4096 by omega, show (128 + r / 64 % 64).toNat = 128 + r.toNat / 64 % 64 by omega, show (128 + r % 64).toNat = 128 + r.toNat % 64 by omega]
      · rw [if_neg (show ¬ r.toNat < 65536 by omega), if_neg a3, ByteArray.toList_mk]; simp only [List.map_cons, List.map_nil]; rw [show (240 + r / 262144).toNat = 240 + r.toNat / 262144 by omega, show (128 + r / 4096 % 64).toNat = 128 + r.toNat / 4096 % 64 by omega, show (128 + r / 64 % 64).toNat = 128 + r.toNat / 64 % 64 by omega, show (128 + r % 64).toNat = 128 + r.toNat % 64 by omega]
theorem toList_app (a b : ByteArray) : (a ++ b).toList = a.toList ++ b.toList := by
  rw [ByteArray.toList_eq, ByteArray.toList_eq, ByteArray.toList_eq, ByteArray.data_append, Array.toList_append]
theorem runesBytes_acc : ∀ (R : List Int) (s : ByteArray), (∀ r ∈ R, scalar r) → (R.foldl (fun r n => r ++ Utf8.encode n) s).toList = s.toList ++ u8s (R.flatMap encP) := by
  intro R
  induction R with
  | nil => intro s _; simp [u8s]
  | cons r R ih =>
    intro s hR; rw [List.foldl_cons, ih _ (fun x hx => hR x (by simp [hx])), toList_app, encode_encP r (hR r (by simp))]; simp [u8s]
theorem valid_text (l : List Int) (hb : bytes l) : (strOfNums (tells (fun s => encP (run s)) l)).toList = (runesBytes (runesOf l)).toList := by
  have hr : runesOf l = (sufs (l.length + 1) l).map run := by
    unfold runesOf; rw [runes_sufs l hb _ 0 (by omega), List.drop_zero, sufs_fuel l.length (l.length + 1) l (by omega) (by omega)]
  rw [hr]; unfold runesBytes
  rw [runesBytes_acc _ _ (by
    intro r hr; obtain ⟨s, _, rfl⟩ := List.mem_map.1 hr
    exact run_scalar s), str_list]
  rw [List.flatMap_map, show ByteArray.empty.toList = [] by rw [ByteArray.toList_eq]; rfl]; rfl
def enc (m : List Int) : List Int := tells (fun s => encP (run s)) m
theorem enc_app (r : Int) (hs : scalar r) (t : List Int) : enc (encP r ++ t) = encP r ++ enc t := by
  obtain ⟨h1, h2⟩ := run_enc r hs t; have hl := (encP_len r).1; (have hg : lng (encP r ++ t) ≠ 0 := by omega); unfold enc; rw [tells_step _ (encP r ++ t) (by simp [enc_ne]), wid_good _ hg, h1, List.drop_left, h2]
theorem enc_flat : ∀ R : List Int, (∀ r ∈ R, scalar r) → enc (R.flatMap encP) = R.flatMap encP := by
  intro R
  induction R with
  | nil => intro _; exact tells_nil _
  | cons r R ih =>
    intro h; rw [List.flatMap_cons, enc_app r (h r (by simp)), ih (fun x hx => h x (by simp [hx]))]
theorem enc_enc (m : List Int) : enc (enc m) = enc m := by
  have e : enc m = ((sufs (m.length + 1) m).map run).flatMap encP := by
    rw [List.flatMap_map]; rfl
  rw [e]
  exact enc_flat _ (by
    intro r hr; obtain ⟨s, _, rfl⟩ := List.mem_map.1 hr
    exact run_scalar s)
theorem enc_bytes1 (m : List Int) : bytes (enc m) := by
  intro x hx; unfold enc tells at hx; obtain ⟨s, _, hx⟩ := List.mem_flatMap.1 hx; have := run_scalar s; exact enc_bytes _ this.1 this.2.1 x hx
theorem enc_len1 (m : List Int) : (enc m).length ≤ 4 * m.length := by
  have h := sufs_len (m.length + 1) m
  have : ∀ L : List (List Int), (L.flatMap (fun s => encP (run s))).length ≤ 4 * L.length := by
    intro L
    induction L with
    | nil => simp
    | cons x L ih =>
      have := (encP_len (run x)).2; simp only [List.flatMap_cons, List.length_append, List.length_cons]; omega
  have := this (sufs (m.length + 1) m); unfold enc tells; omega
theorem valid_f (m : List Int) (hb : bytes m) (hn : m.length ≤ 1099511627776) : step_Valid.f m = some ((strOfNums (enc m)).toList == (strOfNums m).toList) := by
  unfold step_Valid.f; rw [if_pos hn, ← valid_text m hb]; rfl
theorem valid_true (m : List Int) (hb : bytes m) (hn : m.length ≤ 1099511627776) (h : enc m = m) : step_Valid.f m = some true := by
  rw [valid_f m hb hn, h, beq_self_eq_true]
end Go.Proofs.YtcdehlnkilcgaaaDoor.Pure
