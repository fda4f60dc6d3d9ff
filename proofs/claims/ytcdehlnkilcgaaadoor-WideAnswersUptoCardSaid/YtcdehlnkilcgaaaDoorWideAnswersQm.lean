/- Contracts of the Go functions galley/step.Runes, galley/step.Valid: each call answers what the Lean function of its name answers. (Most lines were written by the kit's print program and then turned for this seat.) -/
import Derived.Test.YtcdehlnkilcgaaaDoorWideAnswersQ0
import Derived.Laws.IdiomStrings
import Derived.Laws.Cover4
import Derived.Deep.RegionWith
namespace Go.Proofs.YtcdehlnkilcgaaaDoor.Q
open Go.RowKit Go.Proofs.YtcdehlnkilcgaaaDoorW.PrintWords Go.Proofs.YtcdehlnkilcgaaaDoorW.PrintLast Go.Proofs.YtcdehlnkilcgaaaDoorW.PrintMore
attribute [local go_sem] max2_int min2_int max_two min_two max_three min_three max_four min_four
set_option linter.unusedVariables false
set_option linter.unusedSimpArgs false
def runesAt (s : ByteArray) : (bound i : Nat) → List Int
  | 0, _ => []
  | bound + 1, i => if i < s.size then ((Utf8.decode s i).1 : Int) :: runesAt s bound (i + (Utf8.decode s i).2) else []
theorem runesFrom_eq (s : ByteArray) : ∀ (b i : Nat) (acc : Array Value), Conv.runesFrom s b i acc = acc ++ ((runesAt s b i).map (Value.int .i32)).toArray
  | 0, i, acc => by simp [Conv.runesFrom, runesAt]
  | b + 1, i, acc => by
    unfold Conv.runesFrom runesAt; split
    · (change Conv.runesFrom s b (i + (Utf8.decode s i).2) (acc.push (.int .i32 ((Utf8.decode s i).1 : Int))) = _); rw [runesFrom_eq s b]; simp
    · simp
theorem runesAt_len (s : ByteArray) : ∀ b i, (runesAt s b i).length ≤ b
  | 0, i => by simp [runesAt]
  | b + 1, i => by
    unfold runesAt; split
    · have := runesAt_len s b (i + (Utf8.decode s i).2); (simp); omega
    · simp
theorem strOfNums_size (l : List Int) : (strOfNums l).size = l.length := by simp [strOfNums, ByteArray.size]
def runesOf (l : List Int) : List Int := runesAt (strOfNums l) l.length 0
def step_Runes.f (l0 : List Int) : Option (List Int) := if l0.length ≤ 1099511627776 then some (runesOf l0) else none
/-- '[]rune(s)': a new row of the call's own. -/
theorem runes_made {P : Program} (w : World) (src dst e : TypeId) (s : ByteArray) (hs : P.underlying src = some .string) (hd : P.underlying dst = some (.slice e)) (he : P.underlying e = some (.int .i32)) (hn : s.size ≤ 1099511627776) :
    ∃ v w1, (convert src dst (.string s)).run P w = .ok v w1 ∧ Kd.R (Kd.int .i32) e w1 w.heap.size (fun _ => True) v (runesAt s s.size 0) ∧ Below w.heap.size w w1 := by
  (have hx : Conv.runesFrom s s.size 0 #[] = ((runesAt s s.size 0).map (Value.int .i32)).toArray := by rw [runesFrom_eq]; simp); have hl := runesAt_len s s.size 0; have hr := run_runes_of_string (P := P) w src dst e s hs hd he (by rw [hx]; simp; omega); rw [hx] at hr; simp only [List.size_toArray, List.length_map] at hr; refine ⟨_, _, hr, ?_, ?_⟩
  · have hge := grownCap_ge w (runesAt s s.size 0).length 0 e; have hle := grownCap_le_maxLen w (runesAt s s.size 0).length 0 e (by unfold maxLen; omega); refine Kd.R_of_own ⟨by simp [encs], .inr ⟨w.heap.size, grownCap w (runesAt s s.size 0).length 0 e, (List.map (Value.int .i32) (runesAt s s.size 0)).toArray ++ Array.replicate (grownCap w (runesAt s s.size 0).length 0 e - (runesAt s s.size 0).length) (.int .i32 0), rfl, Nat.le_refl _, ?_, hge, hle, ?_, ?_⟩⟩ (fun _ _ => trivial); · exact heap_alloc_new w.drew _
    · simp; omega
    · simp [encs]
  · exact below_alloc (below_drew (Below.refl _ _)) _
end Go.Proofs.YtcdehlnkilcgaaaDoor.Q
