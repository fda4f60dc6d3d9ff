/- Contracts of the Go functions galley/step.Runes, galley/step.Valid: each call answers what the Lean function of its name answers. (Most lines were written by the kit's print program and then turned for this seat.) -/
import Derived.Test.YtcdehlnkilcgaaaDoorWideBackQ0
import Derived.Laws.IdiomStrings
import Derived.Laws.Cover4
import Derived.Deep.RegionWith
namespace Go.Proofs.YtcdehlnkilcgaaaDoor.Q
open Go.RowKit Go.Proofs.YtcdehlnkilcgaaaDoorW.PrintWords Go.Proofs.YtcdehlnkilcgaaaDoorW.PrintLast Go.Proofs.YtcdehlnkilcgaaaDoorW.PrintMore
attribute [local go_sem] max2_int min2_int max_two min_two max_three min_three max_four min_four
set_option linter.unusedVariables false
set_option linter.unusedSimpArgs false
def runesAt (s : ByteArray) : (bound i : Nat) → List Int
  | 0, _ => []
  | bound + 1, i => if i < s.size then ((Utf8.decode s i).1 : Int) :: runesAt s bound (i + (Utf8.decode s i).2) else []
theorem runesFrom_eq (s : ByteArray) : ∀ (b i : Nat) (acc : Array Value), Conv.runesFrom s b i acc = acc ++ ((runesAt s b i).map (Value.int .i32)).toArray
  | 0, i, acc => by simp [Conv.runesFrom, runesAt]
  | b + 1, i, acc => by
    unfold Conv.runesFrom runesAt; split
    · (change Conv.runesFrom s b (i + (Utf8.decode s i).2) (acc.push (.int .i32 ((Utf8.decode s i).1 : Int))) = _); rw [runesFrom_eq s b]; simp
    · simp
theorem runesAt_len (s : ByteArray) : ∀ b i, (runesAt s b i).length ≤ b
  | 0, i => by simp [runesAt]
  | b + 1, i => by
    unfold runesAt; split
    · have := runesAt_len s b (i + (Utf8.decode s i).2); (simp); omega
    · simp
theorem strOfNums_size (l : List Int) : (strOfNums l).size = l.length := by simp [strOfNums, ByteArray.size]
def runesOf (l : List Int) : List Int := runesAt (strOfNums l) l.length 0
def step_Runes.f (l0 : List Int) : Option (List Int) := if l0.length ≤ 1099511627776 then some (runesOf l0) else none
/-- '[]rune(s)': a new row of the call's own. -/
theorem runes_made {P : Program} (w : World) (src dst e : TypeId) (s : ByteArray) (hs : P.underlying src = some .string) (hd : P.underlying dst = some (.slice e)) (he : P.underlying e = some (.int .i32)) (hn : s.size ≤ 1099511627776) :
    ∃ v w1, (convert src dst (.string s)).run P w = .ok v w1 ∧ Kd.R (Kd.int .i32) e w1 w.heap.size (fun _ => True) v (runesAt s s.size 0) ∧ Below w.heap.size w w1 := by
  (have hx : Conv.runesFrom s s.size 0 #[] = ((runesAt s s.size 0).map (Value.int .i32)).toArray := by rw [runesFrom_eq]; simp); have hl := runesAt_len s s.size 0; have hr := run_runes_of_string (P := P) w src dst e s hs hd he (by rw [hx]; simp; omega); rw [hx] at hr; simp only [List.size_toArray, List.length_map] at hr; refine ⟨_, _, hr, ?_, ?_⟩
  · have hge := grownCap_ge w (runesAt s s.size 0).length 0 e; have hle := grownCap_le_maxLen w (runesAt s s.size 0).length 0 e (by unfold maxLen; omega); refine Kd.R_of_own ⟨by simp [encs], .inr ⟨w.heap.size, grownCap w (runesAt s s.size 0).length 0 e, (List.map (Value.int .i32) (runesAt s s.size 0)).toArray ++ Array.replicate (grownCap w (runesAt s s.size 0).length 0 e - (runesAt s s.size 0).length) (.int .i32 0), rfl, Nat.le_refl _, ?_, hge, hle, ?_, ?_⟩⟩ (fun _ _ => trivial); · exact heap_alloc_new w.drew _
    · simp; omega
    · simp [encs]
  · exact below_alloc (below_drew (Below.refl _ _)) _
set_option maxHeartbeats 1000000 in
set_option maxRecDepth 100000 in
theorem step_Runes.calls (A0 : Option Addr) (c0 : Nat) (l0 : List Int) (r : List Int) (w : World) (hr0 : Kd.C (Kd.int .u8) w A0 l0.length l0) (hc0 : l0.length ≤ c0) (h : step_Runes.f l0 = some r) :
    Calls Tryd.prog 68 #[.slice A0 l0.length c0] w fun e w' => ∃ v0_ : Value, e = .returned (v0_) ∧ Kd.R (Kd.int .i32) 21 w' w.heap.size (fun _ => True) v0_ r ∧ Below w.heap.size w w' := by
  unfold step_Runes.f at h
  have hb : l0.length ≤ 1099511627776 := by
    by_cases hb : l0.length ≤ 1099511627776; · exact hb
    · rw [if_neg hb] at h; cases h
  rw [if_pos hb] at h; obtain rfl := Option.some.inj h; clear h; have hcv1 := Kd.C_string (P := Tryd.prog) (A := A0) (c := c0) Tryd.underlying30 Tryd.underlying5 Tryd.underlying9 hr0; obtain ⟨v, w1, hcv2, hR, hB⟩ := runes_made (P := Tryd.prog) w 9 67 21 (strOfNums l0) Tryd.underlying9 Tryd.underlying67 Tryd.underlying21 (by rw [strOfNums_size]; exact hb); have HR := Aside0.mk hR; have HB := Aside0.mk hB; clear hR hB hr0 hc0 hb; (go_enter Tryd.func68, Tryd.ntmps68); (go_wp2); (go_ret); exact ⟨_, rfl, by unfold runesOf; have := HR.out; rw [strOfNums_size] at this; exact this, HB.out⟩
/-- 'string(rs)' of runes that are read. -/
theorem runes_string {P : Program} {w : World} {src dst e : TypeId} {A : Option Addr} {n c : Nat} {xs : List Int} (hs : P.underlying src = some (.slice e)) (he : P.underlying e = some (.int .i32)) (hd : P.underlying dst = some .string)
    (h : (Kd.int .i32).C w A n xs) : (convert src dst (.slice A n c)).run P w = .ok (.string (runesBytes xs)) w := by
  have hr := Kd.reads_of_C (enc := Value.int .i32) (d := (0 : Int)) (h1 := fun _ => rfl) h; have hl : xs.length = n := hr.1; rcases A with _ | ad
  · have h0 : n = 0 := by
      rcases Nat.eq_zero_or_pos n with h0 | h0
      · exact h0
      · obtain ⟨ad, h, _⟩ := hr.2.2 h0; cases h
    subst h0; obtain rfl : xs = [] := List.eq_nil_of_length_eq_zero hl; exact run_convert_runes_nil w src dst e _ _ hs he hd
  · have hrun := run_convert_runes (P := P) w src dst e ad n c xs (by omega) hs he hd (fun j hj => by
      obtain ⟨ad', e1, hc⟩ := hr.2.2 (by omega); cases e1
      exact hc j (by omega))
    rw [List.take_of_length_le (by omega)] at hrun; exact hrun
def step_Valid.f (l0 : List Int) : Option Bool := if l0.length ≤ 1099511627776 then some ((runesBytes (runesOf l0)).toList == (strOfNums l0).toList) else none
set_option maxHeartbeats 1000000 in
set_option maxRecDepth 100000 in
theorem step_Valid.calls (A0 : Option Addr) (c0 : Nat) (l0 : List Int) (r : Bool) (w : World) (hr0 : Kd.C (Kd.int .u8) w A0 l0.length l0) (hc0 : l0.length ≤ c0) (h : step_Valid.f l0 = some r) :
    Calls Tryd.prog 46 #[.slice A0 l0.length c0] w fun e w' => e = .returned (.bool r) ∧ Below w.heap.size w w' := by
  unfold step_Valid.f at h
  have hb : l0.length ≤ 1099511627776 := by
    by_cases hb : l0.length ≤ 1099511627776; · exact hb
    · rw [if_neg hb] at h; cases h
  rw [if_pos hb] at h; obtain rfl := Option.some.inj h; clear h; have HRU := Aside0.mk (show step_Runes.f l0 = some (runesOf l0) by unfold step_Runes.f; rw [if_pos hb]); have hcv0 := fun (m : Nat) => Kd.C_string (P := Tryd.prog) (A := A0) (c := c0) Tryd.underlying30 Tryd.underlying5 Tryd.underlying9 (Kd.C_drewN hr0 m); have hcv1 := Kd.C_string (P := Tryd.prog) (A := A0) (c := c0) Tryd.underlying30 Tryd.underlying5 Tryd.underlying9 hr0; have hcv4 := Kd.C_string (P := Tryd.prog) (A := A0) (c := c0) Tryd.underlying30 Tryd.underlying5 Tryd.underlying9 (Kd.C_drew hr0); have HR0 := Aside0.mk hr0; have HC0 := Aside0.mk hc0; clear hr0 hc0 hb; (go_enter Tryd.func46, Tryd.ntmps46); (go_wp2); (go_region_with (go_at_call 68; refine (step_Runes.calls _ _ l0 (runesOf l0) _ ?s1 ?s2 HRU.out).mono ?_; (case s1 => first | exact HR0.out | exact Kd.C_drew HR0.out | exact Kd.C_drewN HR0.out _); (case s2 => exact HC0.out); rintro e w1 ⟨v1, rfl, hR, hB0⟩; have hB : Below w.heap.size w w1 := (by first | exact hB0 | exact below_step (below_drew (Below.refl _ _)) hB0 | exact below_step (pw_below_drewN (Below.refl _ _) _) hB0); obtain ⟨A1, c1, eA⟩ := Kd.R_slice hR; subst eA; have hcv2 := runes_string (P := Tryd.prog) (c := c1) Tryd.underlying67 Tryd.underlying21 Tryd.underlying9 (Kd.R_reads' hR).2.2; have hcv3 := Kd.C_string (P := Tryd.prog) (A := A0) (c := c0) Tryd.underlying30 Tryd.underlying5 Tryd.underlying9 (Kd.C_below HR0.out hB); have HB := Aside0.mk hB; clear hR hB hB0)); all_goals (go_wp2; go_ret; exact ⟨rfl, HB.out⟩)
end Go.Proofs.YtcdehlnkilcgaaaDoor.Q
