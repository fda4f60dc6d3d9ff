/- Contracts of the Go functions galley/galleylaw03.UnitsOnly: each call answers what the Lean function of its name answers. (Most lines were written by the kit's print program and then turned for this seat.) -/
import Derived.Test.YtcdehlnkilcgaaaDoorQ0
import Derived.Test.YtcdehlnkilcgaaaDoorU
import Derived.Test.YtcdehlnkilcgaaaDoorQa
import Derived.Test.YtcdehlnkilcgaaaDoorQb
import Derived.Test.YtcdehlnkilcgaaaDoorQc
import Derived.Test.YtcdehlnkilcgaaaDoorQe
import Derived.Test.YtcdehlnkilcgaaaDoorQl
namespace Go.Proofs.YtcdehlnkilcgaaaDoor.Q
open Go.RowKit Go.Proofs.YtcdehlnkilcgaaaDoorW.PrintWords Go.Proofs.YtcdehlnkilcgaaaDoorW.PrintLast Go.Proofs.YtcdehlnkilcgaaaDoorW.PrintMore
attribute [local go_sem] max2_int min2_int max_two min_two max_three min_three max_four min_four
set_option linter.unusedVariables false
set_option linter.unusedSimpArgs false
/-! ### galleylaw03_UnitsOnly: function 9 -/
mutual
def galleylaw03_UnitsOnly.j0 : Nat → List Int → List Int → Int → Int → List Int → Int → Int → Bool → Option (Bool)
  | 0, _, _, _, _, _, _, _, _ => none
  | k + 1, x0, x3, x4, x5, x6, x7, x8, x35 => if x35 = true then (some false) else (if x8 = 0 then ((some (([] : List Int) : List Int)).bind fun y515 => (if y515.length + x6.length < 140737488355328 then ((units_To.f k (y515 ++ x6)).bind fun t521 => ((galleyref03_SameUnits.f k t521 x0).bind fun t524 => (if t524 = true then (if x5 = 0 then (galleylaw03_UnitsOnly.j1 k x0 x3 x4 x5 x6 x7 x8 ((strOfNums x3).toList != (strOfNums x6).toList)) else (galleylaw03_UnitsOnly.j1 k x0 x3 x4 x5 x6 x7 x8 true)) else (galleylaw03_UnitsOnly.j1 k x0 x3 x4 x5 x6 x7 x8 true)))) else (none))) else (galleylaw03_UnitsOnly.j1 k x0 x3 x4 x5 x6 x7 x8 false))
def galleylaw03_UnitsOnly.j1 : Nat → List Int → List Int → Int → Int → List Int → Int → Int → Bool → Option (Bool)
  | 0, _, _, _, _, _, _, _, _ => none
  | k + 1, x0, x3, x4, x5, x6, x7, x8, x57 => if x57 = true then (some false) else (if x5 = 0 then (if x8 = 0 then (some true) else (if (x6.length : Int) = 0 then (if x7 ≥ 0 then (if x7 < (x0.length : Int) then (some true) else (some false)) else (some false)) else (some false))) else (if (x3.length : Int) = 0 then (if x4 < 0 then (some false) else (if x4 ≥ (x0.length : Int) then (some false) else (if x8 = 0 then (some true) else (if (x6.length : Int) = 0 then (if x7 ≥ 0 then (if x7 < (x0.length : Int) then (some (decide (x7 ≤ x4))) else (some false)) else (some false)) else (some false))))) else (some false)))
end
def galleylaw03_UnitsOnly.f (k : Nat) (l0 : List Int) : Option (Bool) := (galleylaw03_wakes.f k).bind fun t488 => (if t488 = true then ((galleylaw03_copied.f l0).bind fun t489 => ((units_FromExact.f k t489).bind fun bt492 => ((galleylaw03_copied.f l0).bind fun t497 => ((units_From.f k t497).bind fun bt500 => (if bt492.2.2 = 0 then ((some (([] : List Int) : List Int)).bind fun y505 => (if y505.length + bt492.1.length < 140737488355328 then ((units_ToExact.f k (y505 ++ bt492.1)).bind fun t511 => ((galleyref03_SameUnits.f k t511 l0).bind fun t514 => (galleylaw03_UnitsOnly.j0 k l0 bt492.1 bt492.2.1 bt492.2.2 bt500.1 bt500.2.1 bt500.2.2 (!t514)))) else (none))) else (galleylaw03_UnitsOnly.j0 k l0 bt492.1 bt492.2.1 bt492.2.2 bt500.1 bt500.2.1 bt500.2.2 false)))))) else (some false))
theorem galleylaw03_UnitsOnly.mono_l : ∀ k, (∀ y0 y1 y2 y3 y4 y5 y6 y7, LeO (galleylaw03_UnitsOnly.j0 k y0 y1 y2 y3 y4 y5 y6 y7) (galleylaw03_UnitsOnly.j0 (k + 1) y0 y1 y2 y3 y4 y5 y6 y7)) ∧ (∀ y0 y1 y2 y3 y4 y5 y6 y7, LeO (galleylaw03_UnitsOnly.j1 k y0 y1 y2 y3 y4 y5 y6 y7) (galleylaw03_UnitsOnly.j1 (k + 1) y0 y1 y2 y3 y4 y5 y6 y7))
  | 0 => ⟨fun _ _ _ _ _ _ _ _ r h => by simp [galleylaw03_UnitsOnly.j0] at h, fun _ _ _ _ _ _ _ _ r h => by simp [galleylaw03_UnitsOnly.j1] at h⟩
  | k + 1 => by
    obtain ⟨ih0, ih1⟩ := galleylaw03_UnitsOnly.mono_l k
    refine ⟨?_, ?_⟩
    · intro y0 y1 y2 y3 y4 y5 y6 y7
      unfold galleylaw03_UnitsOnly.j0
      repeat' first
      | (with_reducible exact ih0 _ _ _ _ _ _ _ _)
      | (with_reducible exact ih1 _ _ _ _ _ _ _ _)
      | (with_reducible exact galleylaw03_wakes.mono _)
      | (with_reducible exact galleyref03_SameUnits.mono _ _ _)
      | (with_reducible exact units_From.mono _ _)
      | (with_reducible exact units_FromExact.mono _ _)
      | (with_reducible exact units_To.mono _ _)
      | (with_reducible exact units_ToExact.mono _ _)
      | (with_reducible exact LeO.refl _)
      | (with_reducible exact LeO.none _)
      | (with_reducible refine LeO.ite ?_ ?_)
      | (with_reducible refine LeO.bind ?_ (fun _ => ?_))
      | exact ih0 _ _ _ _ _ _ _ _
      | exact ih1 _ _ _ _ _ _ _ _
      | exact galleylaw03_wakes.mono _
      | exact galleyref03_SameUnits.mono _ _ _
      | exact units_From.mono _ _
      | exact units_FromExact.mono _ _
      | exact units_To.mono _ _
      | exact units_ToExact.mono _ _
      | exact LeO.none _
      | refine LeO.ite ?_ ?_
      | refine LeO.bind ?_ (fun _ => ?_)
    · intro y0 y1 y2 y3 y4 y5 y6 y7
      unfold galleylaw03_UnitsOnly.j1
      repeat' first
      | (with_reducible exact ih0 _ _ _ _ _ _ _ _)
      | (with_reducible exact ih1 _ _ _ _ _ _ _ _)
      | (with_reducible exact galleylaw03_wakes.mono _)
      | (with_reducible exact galleyref03_SameUnits.mono _ _ _)
      | (with_reducible exact units_From.mono _ _)
      | (with_reducible exact units_FromExact.mono _ _)
      | (with_reducible exact units_To.mono _ _)
      | (with_reducible exact units_ToExact.mono _ _)
      | (with_reducible exact LeO.refl _)
      | (with_reducible exact LeO.none _)
      | (with_reducible refine LeO.ite ?_ ?_)
      | (with_reducible refine LeO.bind ?_ (fun _ => ?_))
      | exact ih0 _ _ _ _ _ _ _ _
      | exact ih1 _ _ _ _ _ _ _ _
      | exact galleylaw03_wakes.mono _
      | exact galleyref03_SameUnits.mono _ _ _
      | exact units_From.mono _ _
      | exact units_FromExact.mono _ _
      | exact units_To.mono _ _
      | exact units_ToExact.mono _ _
      | exact LeO.none _
      | refine LeO.ite ?_ ?_
      | refine LeO.bind ?_ (fun _ => ?_)
theorem galleylaw03_UnitsOnly.mono : ∀ a0 k, LeO (galleylaw03_UnitsOnly.f k a0) (galleylaw03_UnitsOnly.f (k + 1) a0) := by
  intro a0 k
  obtain ⟨ih0, ih1⟩ := galleylaw03_UnitsOnly.mono_l k
  unfold galleylaw03_UnitsOnly.f
  repeat' first
      | (with_reducible exact ih0 _ _ _ _ _ _ _ _)
      | (with_reducible exact ih1 _ _ _ _ _ _ _ _)
      | (with_reducible exact galleylaw03_wakes.mono _)
      | (with_reducible exact galleyref03_SameUnits.mono _ _ _)
      | (with_reducible exact units_From.mono _ _)
      | (with_reducible exact units_FromExact.mono _ _)
      | (with_reducible exact units_To.mono _ _)
      | (with_reducible exact units_ToExact.mono _ _)
      | (with_reducible exact LeO.refl _)
      | (with_reducible exact LeO.none _)
      | (with_reducible refine LeO.ite ?_ ?_)
      | (with_reducible refine LeO.bind ?_ (fun _ => ?_))
      | exact ih0 _ _ _ _ _ _ _ _
      | exact ih1 _ _ _ _ _ _ _ _
      | exact galleylaw03_wakes.mono _
      | exact galleyref03_SameUnits.mono _ _ _
      | exact units_From.mono _ _
      | exact units_FromExact.mono _ _
      | exact units_To.mono _ _
      | exact units_ToExact.mono _ _
      | exact LeO.none _
      | refine LeO.ite ?_ ?_
      | refine LeO.bind ?_ (fun _ => ?_)
set_option maxHeartbeats 8000000 in
set_option maxRecDepth 100000 in
theorem galleylaw03_UnitsOnly.calls (k : Nat) (A0 : Option Addr) (c0 : Nat) (l0 : List Int) (r : Bool) (w : World) (hr0 : Kd.C (Kd.int .u16) w A0 l0.length l0) (hc0 : l0.length ≤ c0) (hG : Glob w) (h : galleylaw03_UnitsOnly.f k l0 = some r) :
    Calls Tryd.prog 9 #[.slice A0 l0.length c0] w fun e w' => e = .returned (.bool r) ∧ Below w.heap.size w w' := by
  have HG := Aside0.mk hG
  clear hG
  have HR0 := Aside0.mk hr0
  have HC0 := Aside0.mk hc0
  clear hr0 hc0
  have HB := Aside0.mk (Below.refl w.heap.size w)
  have H : ((galleylaw03_wakes.f k).bind fun t488 => (if t488 = true then ((galleylaw03_copied.f l0).bind fun t489 => ((units_FromExact.f k t489).bind fun bt492 => ((galleylaw03_copied.f l0).bind fun t497 => ((units_From.f k t497).bind fun bt500 => (if bt492.2.2 = 0 then ((some (([] : List Int) : List Int)).bind fun y505 => (if y505.length + bt492.1.length < 140737488355328 then ((units_ToExact.f k (y505 ++ bt492.1)).bind fun t511 => ((galleyref03_SameUnits.f k t511 l0).bind fun t514 => (galleylaw03_UnitsOnly.j0 k l0 bt492.1 bt492.2.1 bt492.2.2 bt500.1 bt500.2.1 bt500.2.2 (!t514)))) else (none))) else (galleylaw03_UnitsOnly.j0 k l0 bt492.1 bt492.2.1 bt492.2.2 bt500.1 bt500.2.1 bt500.2.2 false)))))) else (some false))) = some r := h
  clear h
  replace H := Option.bind_eq_some_iff.mp H
  obtain ⟨t488, A20, H⟩ := H
  replace H : (if t488 = true then ((galleylaw03_copied.f l0).bind fun t489 => ((units_FromExact.f k t489).bind fun bt492 => ((galleylaw03_copied.f l0).bind fun t497 => ((units_From.f k t497).bind fun bt500 => (if bt492.2.2 = 0 then ((some (([] : List Int) : List Int)).bind fun y505 => (if y505.length + bt492.1.length < 140737488355328 then ((units_ToExact.f k (y505 ++ bt492.1)).bind fun t511 => ((galleyref03_SameUnits.f k t511 l0).bind fun t514 => (galleylaw03_UnitsOnly.j0 k l0 bt492.1 bt492.2.1 bt492.2.2 bt500.1 bt500.2.1 bt500.2.2 (!t514)))) else (none))) else (galleylaw03_UnitsOnly.j0 k l0 bt492.1 bt492.2.1 bt492.2.2 bt500.1 bt500.2.1 bt500.2.2 false)))))) else (some false)) = some r := H
  have A2 := Aside0.mk A20
  clear A20
  by_cases c3 : t488 = true
  · subst c3
    have H1 : ((galleylaw03_copied.f l0).bind fun t489 => ((units_FromExact.f k t489).bind fun bt492 => ((galleylaw03_copied.f l0).bind fun t497 => ((units_From.f k t497).bind fun bt500 => (if bt492.2.2 = 0 then ((some (([] : List Int) : List Int)).bind fun y505 => (if y505.length + bt492.1.length < 140737488355328 then ((units_ToExact.f k (y505 ++ bt492.1)).bind fun t511 => ((galleyref03_SameUnits.f k t511 l0).bind fun t514 => (galleylaw03_UnitsOnly.j0 k l0 bt492.1 bt492.2.1 bt492.2.2 bt500.1 bt500.2.1 bt500.2.2 (!t514)))) else (none))) else (galleylaw03_UnitsOnly.j0 k l0 bt492.1 bt492.2.1 bt492.2.2 bt500.1 bt500.2.1 bt500.2.2 false)))))) = some r := by rw [if_pos rfl] at H; exact H
    clear H
    have H := H1
    clear H1
    replace H := Option.bind_eq_some_iff.mp H
    obtain ⟨t489, A40, H⟩ := H
    replace H : ((units_FromExact.f k t489).bind fun bt492 => ((galleylaw03_copied.f l0).bind fun t497 => ((units_From.f k t497).bind fun bt500 => (if bt492.2.2 = 0 then ((some (([] : List Int) : List Int)).bind fun y505 => (if y505.length + bt492.1.length < 140737488355328 then ((units_ToExact.f k (y505 ++ bt492.1)).bind fun t511 => ((galleyref03_SameUnits.f k t511 l0).bind fun t514 => (galleylaw03_UnitsOnly.j0 k l0 bt492.1 bt492.2.1 bt492.2.2 bt500.1 bt500.2.1 bt500.2.2 (!t514)))) else (none))) else (galleylaw03_UnitsOnly.j0 k l0 bt492.1 bt492.2.1 bt492.2.2 bt500.1 bt500.2.1 bt500.2.2 false))))) = some r := H
    have A4 := Aside0.mk A40
    clear A40
    replace H := Option.bind_eq_some_iff.mp H
    obtain ⟨⟨t492, t493, t494⟩, A50, H⟩ := H
    replace H : ((galleylaw03_copied.f l0).bind fun t497 => ((units_From.f k t497).bind fun bt500 => (if t494 = 0 then ((some (([] : List Int) : List Int)).bind fun y505 => (if y505.length + t492.length < 140737488355328 then ((units_ToExact.f k (y505 ++ t492)).bind fun t511 => ((galleyref03_SameUnits.f k t511 l0).bind fun t514 => (galleylaw03_UnitsOnly.j0 k l0 t492 t493 t494 bt500.1 bt500.2.1 bt500.2.2 (!t514)))) else (none))) else (galleylaw03_UnitsOnly.j0 k l0 t492 t493 t494 bt500.1 bt500.2.1 bt500.2.2 false)))) = some r := H
    have A5 := Aside0.mk A50
    clear A50
    replace H := Option.bind_eq_some_iff.mp H
    obtain ⟨t497, A60, H⟩ := H
    replace H : ((units_From.f k t497).bind fun bt500 => (if t494 = 0 then ((some (([] : List Int) : List Int)).bind fun y505 => (if y505.length + t492.length < 140737488355328 then ((units_ToExact.f k (y505 ++ t492)).bind fun t511 => ((galleyref03_SameUnits.f k t511 l0).bind fun t514 => (galleylaw03_UnitsOnly.j0 k l0 t492 t493 t494 bt500.1 bt500.2.1 bt500.2.2 (!t514)))) else (none))) else (galleylaw03_UnitsOnly.j0 k l0 t492 t493 t494 bt500.1 bt500.2.1 bt500.2.2 false))) = some r := H
    have A6 := Aside0.mk A60
    clear A60
    replace H := Option.bind_eq_some_iff.mp H
    obtain ⟨⟨t500, t501, t502⟩, A70, H⟩ := H
    replace H : (if t494 = 0 then ((some (([] : List Int) : List Int)).bind fun y505 => (if y505.length + t492.length < 140737488355328 then ((units_ToExact.f k (y505 ++ t492)).bind fun t511 => ((galleyref03_SameUnits.f k t511 l0).bind fun t514 => (galleylaw03_UnitsOnly.j0 k l0 t492 t493 t494 t500 t501 t502 (!t514)))) else (none))) else (galleylaw03_UnitsOnly.j0 k l0 t492 t493 t494 t500 t501 t502 false)) = some r := H
    have A7 := Aside0.mk A70
    clear A70
    have HC8 := Aside0.mk H
    clear H
    go_enter Tryd.func9, Tryd.ntmps9
    go_upto_region 5 with (first | ((with_reducible refine gate_callee (f := 16) rfl ?_); (try refine unguard (by first | rfl | (go_simp; done)) ?_); refine goesL_ (some 9) rfl rfl Tryd.func16 (by kernel_rfl) rfl #[] rfl (by (try simp only [List.map_toArray, List.map_cons, List.map_nil]); first | done | rfl | (simp only [List.length_drop, List.length_take]; rfl)) ?_; (with_reducible refine (galleylaw03_wakes.calls k  true _ ?sideG A2.out).mono ?_); (case sideG => exact Glob.lift HG.out (by repeat (first | (with_reducible first | exact HB.out | apply below_alloc | apply pw_below_drewN | apply below_drew1) | exact HB.out))); rintro e w9 ⟨rfl, hb⟩; refine ⟨_, rfl, ?_⟩; have n0_ := Aside0.mk (below_step (by repeat (first | (with_reducible first | exact HB.out | apply below_alloc | apply pw_below_drewN | apply below_drew1) | exact HB.out)) hb); clear HB; have HB := n0_; clear n0_; (try clear hb); (try clear hb2); (try clear hk); (try clear hi)) | ((with_reducible refine gate_callee (f := 38) rfl ?_); (try refine unguard (by first | rfl | (go_simp; done)) ?_); refine goesL_ (some 13) rfl rfl Tryd.func38 (by kernel_rfl) rfl #[.slice A0 l0.length c0] rfl (by (try simp only [List.map_toArray, List.map_cons, List.map_nil]); first | done | rfl | (simp only [List.length_drop, List.length_take]; rfl)) ?_; (with_reducible refine (galleylaw03_copied.calls _ _ l0 t489 _ ?side1 ?side2 A4.out).mono ?_); (case side1 => repeat (first | exact (Kd.C_below HR0.out HB.out) | (with_reducible refine Kd.C_alloc ?_ _) | (with_reducible refine Kd.C_drewN ?_ _) | (with_reducible refine Kd.C_drew ?_))); (case side2 => exact HC0.out); rintro e w10 ⟨v490, rfl, ho0, hb⟩; refine ⟨_, rfl, ?_⟩; have n0_ := Aside0.mk (Kd.R_lower ho0 (below_size (by repeat (first | (with_reducible first | exact HB.out | apply below_alloc | apply pw_below_drewN | apply below_drew1) | exact HB.out)))); have n1_ := Aside0.mk (below_step (by repeat (first | (with_reducible first | exact HB.out | apply below_alloc | apply pw_below_drewN | apply below_drew1) | exact HB.out)) hb); clear HB; have HO491 := n0_; have HB := n1_; clear n0_ n1_; (try clear hb); (try clear hb2); (try clear hk); (try clear hi); (try clear ho0); obtain ⟨Ao11, co11, eo11⟩ := Kd.R_slice HO491.out; subst eo11) | ((with_reducible refine gate_callee (f := 40) rfl ?_); (try refine unguard (by first | rfl | (go_simp; done)) ?_); refine goesL_ (some 14) rfl rfl Tryd.func40 (by kernel_rfl) rfl #[.slice Ao11 t489.length co11] rfl (by (try simp only [List.map_toArray, List.map_cons, List.map_nil]); first | done | rfl | (simp only [List.length_drop, List.length_take]; rfl)) ?_; (with_reducible refine (units_FromExact.calls k _ _ t489 t492 t493 t494 _ ?side1 ?side2 ?sideG A5.out).mono ?_); (case sideG => exact Glob.lift HG.out (by repeat (first | (with_reducible first | exact HB.out | apply below_alloc | apply pw_below_drewN | apply below_drew1) | exact HB.out))); (case side1 => repeat (first | exact (Kd.R_reads' HO491.out).2.2 | (with_reducible refine Kd.C_alloc ?_ _) | (with_reducible refine Kd.C_drewN ?_ _) | (with_reducible refine Kd.C_drew ?_))); (case side2 => exact (Kd.R_reads' HO491.out).2.1); rintro e w12 ⟨v495, rfl, ho0, hb⟩; refine ⟨_, rfl, ?_⟩; have n0_ := Aside0.mk (Kd.R_below (by (with_reducible repeat (first | apply Kd.R_alloc | apply Kd.R_drewN | apply Kd.R_drew)); exact HO491.out) hb); have n1_ := Aside0.mk (Kd.R_lower ho0 (below_size (by repeat (first | (with_reducible first | exact HB.out | apply below_alloc | apply pw_below_drewN | apply below_drew1) | exact HB.out)))); have n2_ := Aside0.mk (below_step (by repeat (first | (with_reducible first | exact HB.out | apply below_alloc | apply pw_below_drewN | apply below_drew1) | exact HB.out)) hb); clear HO491; clear HB; have HO491 := n0_; have HO496 := n1_; have HB := n2_; clear n0_ n1_ n2_; (try clear hb); (try clear hb2); (try clear hk); (try clear hi); (try clear ho0)) | ((with_reducible refine gate_callee (f := 38) rfl ?_); (try refine unguard (by first | rfl | (go_simp; done)) ?_); refine goesL_ (some 20) rfl rfl Tryd.func38 (by kernel_rfl) rfl #[.slice A0 l0.length c0] rfl (by (try simp only [List.map_toArray, List.map_cons, List.map_nil]); first | done | rfl | (simp only [List.length_drop, List.length_take]; rfl)) ?_; (with_reducible refine (galleylaw03_copied.calls _ _ l0 t497 _ ?side1 ?side2 A6.out).mono ?_); (case side1 => repeat (first | exact (Kd.C_below HR0.out HB.out) | (with_reducible refine Kd.C_alloc ?_ _) | (with_reducible refine Kd.C_drewN ?_ _) | (with_reducible refine Kd.C_drew ?_))); (case side2 => exact HC0.out); rintro e w13 ⟨v498, rfl, ho0, hb⟩; refine ⟨_, rfl, ?_⟩; have n0_ := Aside0.mk (Kd.R_elder' (by (with_reducible repeat (first | apply Kd.R_alloc | apply Kd.R_drewN | apply Kd.R_drew)); exact HO491.out) (Kd.R_base ho0) hb); have n1_ := Aside0.mk (Kd.R_below (by (with_reducible repeat (first | apply Kd.R_alloc | apply Kd.R_drewN | apply Kd.R_drew)); exact HO496.out) hb); have n2_ := Aside0.mk (Kd.R_lower (Kd.R_new' ho0 (Kd.R_lt (by (with_reducible repeat (first | apply Kd.R_alloc | apply Kd.R_drewN | apply Kd.R_drew)); exact HO491.out))) (below_size (by repeat (first | (with_reducible first | exact HB.out | apply below_alloc | apply pw_below_drewN | apply below_drew1) | exact HB.out)))); have n3_ := Aside0.mk (below_step (by repeat (first | (with_reducible first | exact HB.out | apply below_alloc | apply pw_below_drewN | apply below_drew1) | exact HB.out)) hb); clear HO491; clear HO496; clear HB; have HO491 := n0_; have HO496 := n1_; have HO499 := n2_; have HB := n3_; clear n0_ n1_ n2_ n3_; (try clear hb); (try clear hb2); (try clear hk); (try clear hi); (try clear ho0); obtain ⟨Ao14, co14, eo14⟩ := Kd.R_slice HO499.out; subst eo14) | ((with_reducible refine gate_callee (f := 37) rfl ?_); (try refine unguard (by first | rfl | (go_simp; done)) ?_); refine goesL_ (some 21) rfl rfl Tryd.func37 (by kernel_rfl) rfl #[.slice Ao14 t497.length co14] rfl (by (try simp only [List.map_toArray, List.map_cons, List.map_nil]); first | done | rfl | (simp only [List.length_drop, List.length_take]; rfl)) ?_; (with_reducible refine (units_From.calls k _ _ t497 t500 t501 t502 _ ?side1 ?side2 A7.out).mono ?_); (case side1 => repeat (first | exact (Kd.R_reads' HO499.out).2.2 | (with_reducible refine Kd.C_alloc ?_ _) | (with_reducible refine Kd.C_drewN ?_ _) | (with_reducible refine Kd.C_drew ?_))); (case side2 => exact (Kd.R_reads' HO499.out).2.1); rintro e w15 ⟨v503, rfl, ho0, hb⟩; refine ⟨_, rfl, ?_⟩; have n0_ := Aside0.mk (Kd.R_below (by (with_reducible repeat (first | apply Kd.R_alloc | apply Kd.R_drewN | apply Kd.R_drew)); exact HO491.out) hb); have n1_ := Aside0.mk (Kd.R_elder' (by (with_reducible repeat (first | apply Kd.R_alloc | apply Kd.R_drewN | apply Kd.R_drew)); exact HO496.out) (Kd.R_base ho0) hb); have n2_ := Aside0.mk (Kd.R_below (by (with_reducible repeat (first | apply Kd.R_alloc | apply Kd.R_drewN | apply Kd.R_drew)); exact HO499.out) hb); have n3_ := Aside0.mk (Kd.R_lower (Kd.R_new' ho0 (Kd.R_lt (by (with_reducible repeat (first | apply Kd.R_alloc | apply Kd.R_drewN | apply Kd.R_drew)); exact HO496.out))) (below_size (by repeat (first | (with_reducible first | exact HB.out | apply below_alloc | apply pw_below_drewN | apply below_drew1) | exact HB.out)))); have n4_ := Aside0.mk (below_step (by repeat (first | (with_reducible first | exact HB.out | apply below_alloc | apply pw_below_drewN | apply below_drew1) | exact HB.out)) hb); clear HO491; clear HO496; clear HO499; clear HB; have HO491 := n0_; have HO496 := n1_; have HO499 := n2_; have HO504 := n3_; have HB := n4_; clear n0_ n1_ n2_ n3_ n4_; (try clear hb); (try clear hb2); (try clear hk); (try clear hi); (try clear ho0)))
    (try simp only [Act.put, List.setIfInBounds_toArray, List.set_cons_zero, List.set_cons_succ])
    go_cut [35] (fun v35 wc => ∃ (kq : Nat) (x35_7 : Bool), v35 = .bool x35_7 ∧ Aside0 (galleylaw03_UnitsOnly.j0 kq l0 t492 t493 t494 t500 t501 t502 x35_7 = some r) ∧ Aside0 (kq ≤ k) ∧ Aside0 (Kd.R (Kd.int .u8) 5 wc w.heap.size (fun k_ => some k_ ≠ (v503 : Value).ownBlock) v495 t492) ∧ Aside0 (Kd.R (Kd.int .u8) 5 wc w.heap.size (fun k_ => some k_ ≠ (v495 : Value).ownBlock) v503 t500) ∧ Aside0 (Below w.heap.size w wc))
    case first =>
      have H := HC8.out
      clear HC8
      by_cases c16 : t494 = 0
      · rw [if_pos c16] at H
        have c16b0 : (t494 == 0) = true := beq_iff_eq.mpr c16
        have c16b1 : (t494 != 0) = false := bne_eq_false_iff_eq.mpr c16
        clear c16
        (first | rw [c16b0] | (simp only [i64_w, i32_w]; rw [c16b0]) | skip)
        obtain ⟨y505, hy505⟩ : ∃ y_ : List Int, y_ = (([] : List Int)) := ⟨_, rfl⟩
        replace H : (if y505.length + t492.length < 140737488355328 then ((units_ToExact.f k (y505 ++ t492)).bind fun t511 => ((galleyref03_SameUnits.f k t511 l0).bind fun t514 => (galleylaw03_UnitsOnly.j0 k l0 t492 t493 t494 t500 t501 t502 (!t514)))) else (none)) = some r := by first | (rw [hy505]; with_reducible exact H) | (have H2_ := (Option.bind_some _ _).symm.trans H; rw [hy505]; with_reducible exact H2_) | (have H2_ := (Option.bind_some _ _).symm.trans H; with_reducible exact H2_) | with_reducible exact H | (rw [hy505]; exact H) | exact H
        have Ny505 := Aside0.mk hy505
        clear hy505
        by_cases c17 : y505.length + t492.length < 140737488355328
        · rw [if_pos c17] at H
          have LMc17 := Aside0.mk c17
          clear c17
          obtain ⟨y508, hy508⟩ : ∃ y_ : List Int, y_ = (y505 ++ t492) := ⟨_, rfl⟩
          replace H : ((units_ToExact.f k y508).bind fun t511 => ((galleyref03_SameUnits.f k t511 l0).bind fun t514 => (galleylaw03_UnitsOnly.j0 k l0 t492 t493 t494 t500 t501 t502 (!t514)))) = some r := by first | (rw [hy508]; with_reducible exact H) | (have H2_ := (Option.bind_some _ _).symm.trans H; rw [hy508]; with_reducible exact H2_) | (have H2_ := (Option.bind_some _ _).symm.trans H; with_reducible exact H2_) | with_reducible exact H | (rw [hy508]; exact H) | exact H
          have Ny508 := Aside0.mk hy508
          clear hy508
          replace H := Option.bind_eq_some_iff.mp H
          obtain ⟨t511, A180, H⟩ := H
          replace H : ((galleyref03_SameUnits.f k t511 l0).bind fun t514 => (galleylaw03_UnitsOnly.j0 k l0 t492 t493 t494 t500 t501 t502 (!t514))) = some r := H
          have A18 := Aside0.mk A180
          clear A180
          replace H := Option.bind_eq_some_iff.mp H
          obtain ⟨t514, A190, H⟩ := H
          replace H : (galleylaw03_UnitsOnly.j0 k l0 t492 t493 t494 t500 t501 t502 (!t514)) = some r := H
          have A19 := Aside0.mk A190
          clear A190
          have H' := Aside0.mk H
          clear H
          go_wp2_with (first | ((with_reducible refine gate_dst (N := 28) rfl ?_); (try refine unguard (by first | rfl | (go_simp; done)) ?_); refine Kd.R_lit (Kd.int .u8) _ 5 ?hg (N := 28) ?hd (xs := ([] : List Int)) (inner := []) (ok := fun _ => True) (okp := fun _ => True) ?hr ?hp (fun _ hk => hk) trivial (Below.refl _ _) (Nat.le_refl _) (by simp) ?_; (case hd => rfl); (case hg => rfl); (case hr => first | (go_simp; done) | (go_simp; rfl)); (case hp => exact (Reps.none _ _)); intro v506 w20 ho21 hb hg_ hnew_; clear hg_ hnew_; (first | rw [← Ny505.out] at ho21 | (simp only [Int.reduceToNat] at ho21; rw [← Ny505.out] at ho21)); have n0_ := Aside0.mk (Kd.R_below (by (with_reducible repeat (first | apply Kd.R_alloc | apply Kd.R_drewN | apply Kd.R_drew)); exact HO491.out) hb); have n1_ := Aside0.mk (Kd.R_elder' (by (with_reducible repeat (first | apply Kd.R_alloc | apply Kd.R_drewN | apply Kd.R_drew)); exact HO496.out) (Kd.R_base ho21) hb); have n2_ := Aside0.mk (Kd.R_below (by (with_reducible repeat (first | apply Kd.R_alloc | apply Kd.R_drewN | apply Kd.R_drew)); exact HO499.out) hb); have n3_ := Aside0.mk (Kd.R_elder' (by (with_reducible repeat (first | apply Kd.R_alloc | apply Kd.R_drewN | apply Kd.R_drew)); exact HO504.out) (Kd.R_base ho21) hb); have n4_ := Aside0.mk (Kd.R_lower (Kd.R_new' (Kd.R_new' ho21 (Kd.R_lt (by (with_reducible repeat (first | apply Kd.R_alloc | apply Kd.R_drewN | apply Kd.R_drew)); exact HO496.out))) (Kd.R_lt (by (with_reducible repeat (first | apply Kd.R_alloc | apply Kd.R_drewN | apply Kd.R_drew)); exact HO504.out))) (below_size (by repeat (first | (with_reducible first | exact HB.out | apply below_alloc | apply pw_below_drewN | apply below_drew1) | exact HB.out)))); have n5_ := Aside0.mk (below_step (by repeat (first | (with_reducible first | exact HB.out | apply below_alloc | apply pw_below_drewN | apply below_drew1) | exact HB.out)) hb); clear HO491; clear HO496; clear HO499; clear HO504; clear HB; have HO491 := n0_; have HO496 := n1_; have HO499 := n2_; have HO504 := n3_; have HO507 := n4_; have HB := n5_; clear n0_ n1_ n2_ n3_ n4_ n5_; clear hb ho21; obtain ⟨Ao23, co23, eo23⟩ := Kd.R_slice HO496.out; subst eo23) | ((with_reducible refine gate_builtin (b := .append) (xs := #[.tmp 28, .tmp 29]) rfl ?_); (try refine unguard (by first | rfl | (go_simp; done)) ?_); at_builtin; refine Kd.R_append_rows (Kd.int .u8) (w0 := w) w.heap.size rfl (.tmp 28) (.tmp 29) 30 5 (.int .u8 0) 1 rfl Tryd.underlying30 info5 rfl (by decide) (by omega) v506 y505 t492 _ _ _ (fun k_ => some k_ ≠ (.slice Ao23 t492.length co23 : Value).ownBlock ∧ some k_ ≠ (v503 : Value).ownBlock) (fun _ => False) rfl rfl ?aO ?aR (fun _ _ h => h) (fun _ h => h.elim) ?aF ?aB ?aS ?aL ?_; (case aR => repeat (first | exact (Kd.R_reads' HO496.out).2.2 | (with_reducible refine Kd.C_alloc ?_ _) | (with_reducible refine Kd.C_drewN ?_ _) | (with_reducible refine Kd.C_drew ?_))); (case aB => exact (by repeat (first | (with_reducible first | exact HB.out | apply below_alloc | apply pw_below_drewN | apply below_drew1) | exact HB.out))); (case aF => exact (fun k_ hk => ⟨Kd.fresh' (Kd.R_lt (by (with_reducible repeat (first | apply Kd.R_alloc | apply Kd.R_drewN | apply Kd.R_drew)); exact HO496.out)) k_ hk, Kd.fresh' (Kd.R_lt (by (with_reducible repeat (first | apply Kd.R_alloc | apply Kd.R_drewN | apply Kd.R_drew)); exact HO504.out)) k_ hk⟩)); (case aO => exact (by (with_reducible repeat (first | apply Kd.R_alloc | apply Kd.R_drewN | apply Kd.R_drew)); exact Kd.R_mono HO507.out (fun _ hk => ⟨hk.1.2, hk.2⟩))); (case aS => exact (below_size (by repeat (first | (with_reducible first | exact HB.out | apply below_alloc | apply pw_below_drewN | apply below_drew1) | exact HB.out)))); (case aL => have := LMc17.out; omega); intro v509 w22 ho hb hg hat; rw [← Ny508.out] at ho; have n0_ := Aside0.mk (Kd.R_over' (by (with_reducible repeat (first | apply Kd.R_alloc | apply Kd.R_drewN | apply Kd.R_drew)); exact HO491.out) (Kd.R_typed (by (with_reducible repeat (first | apply Kd.R_alloc | apply Kd.R_drewN | apply Kd.R_drew)); exact HO507.out)) (by decide) hg); have n1_ := Aside0.mk (Kd.R_after (ok := (fun k_ => some k_ ≠ (v503 : Value).ownBlock)) (by (with_reducible repeat (first | apply Kd.R_alloc | apply Kd.R_drewN | apply Kd.R_drew)); exact Kd.R_mono HO496.out (fun _ hk => ⟨hk.1.2, hk.2⟩)) hg hat); have n2_ := Aside0.mk (Kd.R_over' (by (with_reducible repeat (first | apply Kd.R_alloc | apply Kd.R_drewN | apply Kd.R_drew)); exact HO499.out) (Kd.R_typed (by (with_reducible repeat (first | apply Kd.R_alloc | apply Kd.R_drewN | apply Kd.R_drew)); exact HO507.out)) (by decide) hg); have n3_ := Aside0.mk (Kd.R_after (ok := (fun k_ => some k_ ≠ (.slice Ao23 t492.length co23 : Value).ownBlock)) (by (with_reducible repeat (first | apply Kd.R_alloc | apply Kd.R_drewN | apply Kd.R_drew)); exact Kd.R_mono HO504.out (fun _ hk => ⟨hk.1.2, hk.2⟩)) hg hat); have n4_ := Aside0.mk (hb); have n5_ := Aside0.mk (ho); clear HO491; clear HO496; clear HO499; clear HO504; clear HB; clear HO507; have HO491 := n0_; have HO496 := n1_; have HO499 := n2_; have HO504 := n3_; have HB := n4_; have HO510 := n5_; clear n0_ n1_ n2_ n3_ n4_ n5_; clear ho hb hg hat; obtain ⟨Ao24, co24, eo24⟩ := Kd.R_slice HO510.out; subst eo24) | (go_at_call 24; (with_reducible refine (units_ToExact.calls k _ _ y508 t511 _ ?side1 ?side2 A18.out).mono ?_); (case side1 => repeat (first | exact (Kd.R_reads' HO510.out).2.2 | (with_reducible refine Kd.C_alloc ?_ _) | (with_reducible refine Kd.C_drewN ?_ _) | (with_reducible refine Kd.C_drew ?_))); (case side2 => exact (Kd.R_reads' HO510.out).2.1); rintro e w25 ⟨v512, rfl, ho0, hb⟩; have n0_ := Aside0.mk (Kd.R_elder' (by (with_reducible repeat (first | apply Kd.R_alloc | apply Kd.R_drewN | apply Kd.R_drew)); exact HO491.out) (Kd.R_base ho0) hb); have n1_ := Aside0.mk (Kd.R_below (by (with_reducible repeat (first | apply Kd.R_alloc | apply Kd.R_drewN | apply Kd.R_drew)); exact HO496.out) hb); have n2_ := Aside0.mk (Kd.R_elder' (by (with_reducible repeat (first | apply Kd.R_alloc | apply Kd.R_drewN | apply Kd.R_drew)); exact HO499.out) (Kd.R_base ho0) hb); have n3_ := Aside0.mk (Kd.R_below (by (with_reducible repeat (first | apply Kd.R_alloc | apply Kd.R_drewN | apply Kd.R_drew)); exact HO504.out) hb); have n4_ := Aside0.mk (Kd.R_below (by (with_reducible repeat (first | apply Kd.R_alloc | apply Kd.R_drewN | apply Kd.R_drew)); exact HO510.out) hb); have n5_ := Aside0.mk (Kd.R_lower (Kd.R_new' (Kd.R_new' ho0 (Kd.R_lt (by (with_reducible repeat (first | apply Kd.R_alloc | apply Kd.R_drewN | apply Kd.R_drew)); exact HO491.out))) (Kd.R_lt (by (with_reducible repeat (first | apply Kd.R_alloc | apply Kd.R_drewN | apply Kd.R_drew)); exact HO499.out))) (below_size (by repeat (first | (with_reducible first | exact HB.out | apply below_alloc | apply pw_below_drewN | apply below_drew1) | exact HB.out)))); have n6_ := Aside0.mk (below_step (by repeat (first | (with_reducible first | exact HB.out | apply below_alloc | apply pw_below_drewN | apply below_drew1) | exact HB.out)) hb); clear HO491; clear HO496; clear HO499; clear HO504; clear HO510; clear HB; have HO491 := n0_; have HO496 := n1_; have HO499 := n2_; have HO504 := n3_; have HO510 := n4_; have HO513 := n5_; have HB := n6_; clear n0_ n1_ n2_ n3_ n4_ n5_ n6_; (try clear hb); (try clear hb2); (try clear hk); (try clear hi); (try clear ho0); obtain ⟨Ao26, co26, eo26⟩ := Kd.R_slice HO513.out; subst eo26) | (go_at_call 25; (with_reducible refine (galleyref03_SameUnits.calls k _ _ t511 _ _ l0 t514 _ ?side1 ?side2 ?side3 ?side4 A19.out).mono ?_); (case side1 => repeat (first | exact (Kd.R_reads' HO513.out).2.2 | (with_reducible refine Kd.C_alloc ?_ _) | (with_reducible refine Kd.C_drewN ?_ _) | (with_reducible refine Kd.C_drew ?_))); (case side2 => exact (Kd.R_reads' HO513.out).2.1); (case side3 => repeat (first | exact (Kd.C_below HR0.out HB.out) | (with_reducible refine Kd.C_alloc ?_ _) | (with_reducible refine Kd.C_drewN ?_ _) | (with_reducible refine Kd.C_drew ?_))); (case side4 => exact HC0.out); rintro e w' ⟨rfl, ⟨nd, rfl⟩⟩))
          go_meet
          case rel => exact ⟨_, (!t514), (by first | rfl | (simp; done) | (simp [*]; done)), H', ⟨by first | omega | exact Nat.le_refl _⟩, ⟨by (with_reducible repeat (first | apply Kd.R_alloc | apply Kd.R_drewN | apply Kd.R_drew)); exact Kd.R_mono HO496.out (fun _ hk => hk.1)⟩, ⟨by (with_reducible repeat (first | apply Kd.R_alloc | apply Kd.R_drewN | apply Kd.R_drew)); exact Kd.R_mono HO504.out (fun _ hk => hk.1)⟩, ⟨by repeat (first | (with_reducible first | exact HB.out | apply below_alloc | apply pw_below_drewN | apply below_drew1) | exact HB.out)⟩⟩
        · rw [if_neg c17] at H
          exact absurd H (by simp)
      · rw [if_neg c16] at H
        have c16b0 : (t494 == 0) = false := beq_eq_false_iff_ne.mpr c16
        have c16b1 : (t494 != 0) = true := bne_iff_ne.mpr c16
        (first | rw [c16b0] | (simp only [i64_w, i32_w]; rw [c16b0]) | skip)
        have H' := Aside0.mk H
        clear H
        go_wp2
        go_meet
        case rel => exact ⟨_, (false), (by first | rfl | (simp; done) | (simp [*]; done)), H', ⟨by first | omega | exact Nat.le_refl _⟩, ⟨by (with_reducible repeat (first | apply Kd.R_alloc | apply Kd.R_drewN | apply Kd.R_drew)); exact Kd.R_mono HO496.out (fun _ hk => hk.2)⟩, ⟨by (with_reducible repeat (first | apply Kd.R_alloc | apply Kd.R_drewN | apply Kd.R_drew)); exact Kd.R_mono HO504.out (fun _ hk => hk.2)⟩, ⟨by repeat (first | (with_reducible first | exact HB.out | apply below_alloc | apply pw_below_drewN | apply below_drew1) | exact HB.out)⟩⟩
    case rest =>
      clear HC8
      try clear c1
      try clear p2
      try clear c3
      try clear c4
      try clear c9
      try clear c16
      try clear c16b0
      try clear c16b1
      try clear c17
      obtain ⟨kq, x35_7, rfl, HA, HJ7, HO_3, HO_6, HB⟩ := hcut
      cases kq with
      | zero => exact absurd HA.out (by simp [galleylaw03_UnitsOnly.j0])
      | succ kj7 =>
        have H := HA.out
        clear HA
        simp only [galleylaw03_UnitsOnly.j0] at H
        by_cases c27 : x35_7 = true
        · subst c27
          have H1 : (some false) = some r := by rw [if_pos rfl] at H; exact H
          clear H
          have H := H1
          clear H1
          obtain rfl := Option.some.inj H
          go_wp2
          go_ret
          exact ⟨by first | rfl | (simp [errW_none, errW_some] <;> rfl) | (simp [*, errW_none, errW_some] <;> rfl), by repeat (first | (with_reducible first | exact HB.out | apply below_alloc | apply pw_below_drewN | apply below_drew1) | exact HB.out)⟩
        · replace c27 := Bool.eq_false_iff.mpr c27
          subst c27
          have H1 : (if t502 = 0 then ((some (([] : List Int) : List Int)).bind fun y515 => (if y515.length + t500.length < 140737488355328 then ((units_To.f kj7 (y515 ++ t500)).bind fun t521 => ((galleyref03_SameUnits.f kj7 t521 l0).bind fun t524 => (if t524 = true then (if t494 = 0 then (galleylaw03_UnitsOnly.j1 kj7 l0 t492 t493 t494 t500 t501 t502 ((strOfNums t492).toList != (strOfNums t500).toList)) else (galleylaw03_UnitsOnly.j1 kj7 l0 t492 t493 t494 t500 t501 t502 true)) else (galleylaw03_UnitsOnly.j1 kj7 l0 t492 t493 t494 t500 t501 t502 true)))) else (none))) else (galleylaw03_UnitsOnly.j1 kj7 l0 t492 t493 t494 t500 t501 t502 false)) = some r := by rw [if_neg (show ¬ (false = true) by decide)] at H; exact H
          clear H
          have H := H1
          clear H1
          have HC28 := Aside0.mk H
          clear H
          go_upto_region 7 with (fail)
          go_cut [57] (fun v57 wc => ∃ (kq : Nat) (x57_27 : Bool), v57 = .bool x57_27 ∧ Aside0 (galleylaw03_UnitsOnly.j1 kq l0 t492 t493 t494 t500 t501 t502 x57_27 = some r) ∧ Aside0 (kq ≤ kj7) ∧ Aside0 (Kd.R (Kd.int .u8) 5 wc w.heap.size (fun k_ => some k_ ≠ (v503 : Value).ownBlock) v495 t492) ∧ Aside0 (Kd.R (Kd.int .u8) 5 wc w.heap.size (fun k_ => some k_ ≠ (v495 : Value).ownBlock) v503 t500) ∧ Aside0 (Below w.heap.size w wc))
          case first =>
            have H := HC28.out
            clear HC28
            by_cases c29 : t502 = 0
            · rw [if_pos c29] at H
              have c29b0 : (t502 == 0) = true := beq_iff_eq.mpr c29
              have c29b1 : (t502 != 0) = false := bne_eq_false_iff_eq.mpr c29
              clear c29
              (first | rw [c29b0] | (simp only [i64_w, i32_w]; rw [c29b0]) | skip)
              obtain ⟨y515, hy515⟩ : ∃ y_ : List Int, y_ = (([] : List Int)) := ⟨_, rfl⟩
              replace H : (if y515.length + t500.length < 140737488355328 then ((units_To.f kj7 (y515 ++ t500)).bind fun t521 => ((galleyref03_SameUnits.f kj7 t521 l0).bind fun t524 => (if t524 = true then (if t494 = 0 then (galleylaw03_UnitsOnly.j1 kj7 l0 t492 t493 t494 t500 t501 t502 ((strOfNums t492).toList != (strOfNums t500).toList)) else (galleylaw03_UnitsOnly.j1 kj7 l0 t492 t493 t494 t500 t501 t502 true)) else (galleylaw03_UnitsOnly.j1 kj7 l0 t492 t493 t494 t500 t501 t502 true)))) else (none)) = some r := by first | (rw [hy515]; with_reducible exact H) | (have H2_ := (Option.bind_some _ _).symm.trans H; rw [hy515]; with_reducible exact H2_) | (have H2_ := (Option.bind_some _ _).symm.trans H; with_reducible exact H2_) | with_reducible exact H | (rw [hy515]; exact H) | exact H
              have Ny515 := Aside0.mk hy515
              clear hy515
              by_cases c30 : y515.length + t500.length < 140737488355328
              · rw [if_pos c30] at H
                have LMc30 := Aside0.mk c30
                clear c30
                obtain ⟨y518, hy518⟩ : ∃ y_ : List Int, y_ = (y515 ++ t500) := ⟨_, rfl⟩
                replace H : ((units_To.f kj7 y518).bind fun t521 => ((galleyref03_SameUnits.f kj7 t521 l0).bind fun t524 => (if t524 = true then (if t494 = 0 then (galleylaw03_UnitsOnly.j1 kj7 l0 t492 t493 t494 t500 t501 t502 ((strOfNums t492).toList != (strOfNums t500).toList)) else (galleylaw03_UnitsOnly.j1 kj7 l0 t492 t493 t494 t500 t501 t502 true)) else (galleylaw03_UnitsOnly.j1 kj7 l0 t492 t493 t494 t500 t501 t502 true)))) = some r := by first | (rw [hy518]; with_reducible exact H) | (have H2_ := (Option.bind_some _ _).symm.trans H; rw [hy518]; with_reducible exact H2_) | (have H2_ := (Option.bind_some _ _).symm.trans H; with_reducible exact H2_) | with_reducible exact H | (rw [hy518]; exact H) | exact H
                have Ny518 := Aside0.mk hy518
                clear hy518
                replace H := Option.bind_eq_some_iff.mp H
                obtain ⟨t521, A310, H⟩ := H
                replace H : ((galleyref03_SameUnits.f kj7 t521 l0).bind fun t524 => (if t524 = true then (if t494 = 0 then (galleylaw03_UnitsOnly.j1 kj7 l0 t492 t493 t494 t500 t501 t502 ((strOfNums t492).toList != (strOfNums t500).toList)) else (galleylaw03_UnitsOnly.j1 kj7 l0 t492 t493 t494 t500 t501 t502 true)) else (galleylaw03_UnitsOnly.j1 kj7 l0 t492 t493 t494 t500 t501 t502 true))) = some r := H
                have A31 := Aside0.mk A310
                clear A310
                replace H := Option.bind_eq_some_iff.mp H
                obtain ⟨t524, A320, H⟩ := H
                replace H : (if t524 = true then (if t494 = 0 then (galleylaw03_UnitsOnly.j1 kj7 l0 t492 t493 t494 t500 t501 t502 ((strOfNums t492).toList != (strOfNums t500).toList)) else (galleylaw03_UnitsOnly.j1 kj7 l0 t492 t493 t494 t500 t501 t502 true)) else (galleylaw03_UnitsOnly.j1 kj7 l0 t492 t493 t494 t500 t501 t502 true)) = some r := H
                have A32 := Aside0.mk A320
                clear A320
                by_cases c33 : t524 = true
                · subst c33
                  have H1 : (if t494 = 0 then (galleylaw03_UnitsOnly.j1 kj7 l0 t492 t493 t494 t500 t501 t502 ((strOfNums t492).toList != (strOfNums t500).toList)) else (galleylaw03_UnitsOnly.j1 kj7 l0 t492 t493 t494 t500 t501 t502 true)) = some r := by rw [if_pos rfl] at H; exact H
                  clear H
                  have H := H1
                  clear H1
                  by_cases c34 : t494 = 0
                  · rw [if_pos c34] at H
                    have c34b0 : (t494 == 0) = true := beq_iff_eq.mpr c34
                    have c34b1 : (t494 != 0) = false := bne_eq_false_iff_eq.mpr c34
                    clear c34
                    have H' := Aside0.mk H
                    clear H
                    go_wp2_with (first | ((with_reducible refine gate_dst (N := 39) rfl ?_); (try refine unguard (by first | rfl | (go_simp; done)) ?_); refine Kd.R_lit (Kd.int .u8) _ 5 ?hg (N := 39) ?hd (xs := ([] : List Int)) (inner := []) (ok := fun _ => True) (okp := fun _ => True) ?hr ?hp (fun _ hk => hk) trivial (Below.refl _ _) (Nat.le_refl _) (by simp) ?_; (case hd => rfl); (case hg => rfl); (case hr => first | (go_simp; done) | (go_simp; rfl)); (case hp => exact (Reps.none _ _)); intro v516 w35 ho36 hb hg_ hnew_; clear hg_ hnew_; (first | rw [← Ny515.out] at ho36 | (simp only [Int.reduceToNat] at ho36; rw [← Ny515.out] at ho36)); have n0_ := Aside0.mk (Kd.R_elder' (by (with_reducible repeat (first | apply Kd.R_alloc | apply Kd.R_drewN | apply Kd.R_drew)); exact HO_3.out) (Kd.R_base ho36) hb); have n1_ := Aside0.mk (Kd.R_elder' (by (with_reducible repeat (first | apply Kd.R_alloc | apply Kd.R_drewN | apply Kd.R_drew)); exact HO_6.out) (Kd.R_base ho36) hb); have n2_ := Aside0.mk (Kd.R_lower (Kd.R_new' (Kd.R_new' ho36 (Kd.R_lt (by (with_reducible repeat (first | apply Kd.R_alloc | apply Kd.R_drewN | apply Kd.R_drew)); exact HO_3.out))) (Kd.R_lt (by (with_reducible repeat (first | apply Kd.R_alloc | apply Kd.R_drewN | apply Kd.R_drew)); exact HO_6.out))) (below_size (by repeat (first | (with_reducible first | exact HB.out | apply below_alloc | apply pw_below_drewN | apply below_drew1) | exact HB.out)))); have n3_ := Aside0.mk (below_step (by repeat (first | (with_reducible first | exact HB.out | apply below_alloc | apply pw_below_drewN | apply below_drew1) | exact HB.out)) hb); clear HO_3; clear HO_6; clear HB; have HO_3 := n0_; have HO_6 := n1_; have HO517 := n2_; have HB := n3_; clear n0_ n1_ n2_ n3_; clear hb ho36; obtain ⟨Ao38, co38, eo38⟩ := Kd.R_slice HO_6.out; subst eo38) | ((with_reducible refine gate_builtin (b := .append) (xs := #[.tmp 39, .tmp 40]) rfl ?_); (try refine unguard (by first | rfl | (go_simp; done)) ?_); at_builtin; refine Kd.R_append_rows (Kd.int .u8) (w0 := w) w.heap.size rfl (.tmp 39) (.tmp 40) 30 5 (.int .u8 0) 1 rfl Tryd.underlying30 info5 rfl (by decide) (by omega) v516 y515 t500 _ _ _ (fun k_ => some k_ ≠ (v495 : Value).ownBlock ∧ some k_ ≠ (.slice Ao38 t500.length co38 : Value).ownBlock) (fun _ => False) rfl rfl ?aO ?aR (fun _ _ h => h) (fun _ h => h.elim) ?aF ?aB ?aS ?aL ?_; (case aR => repeat (first | exact (Kd.R_reads' HO_6.out).2.2 | (with_reducible refine Kd.C_alloc ?_ _) | (with_reducible refine Kd.C_drewN ?_ _) | (with_reducible refine Kd.C_drew ?_))); (case aB => exact (by repeat (first | (with_reducible first | exact HB.out | apply below_alloc | apply pw_below_drewN | apply below_drew1) | exact HB.out))); (case aF => exact (fun k_ hk => ⟨Kd.fresh' (Kd.R_lt (by (with_reducible repeat (first | apply Kd.R_alloc | apply Kd.R_drewN | apply Kd.R_drew)); exact HO_3.out)) k_ hk, Kd.fresh' (Kd.R_lt (by (with_reducible repeat (first | apply Kd.R_alloc | apply Kd.R_drewN | apply Kd.R_drew)); exact HO_6.out)) k_ hk⟩)); (case aO => exact (by (with_reducible repeat (first | apply Kd.R_alloc | apply Kd.R_drewN | apply Kd.R_drew)); exact Kd.R_mono HO517.out (fun _ hk => ⟨hk.1.2, hk.2⟩))); (case aS => exact (below_size (by repeat (first | (with_reducible first | exact HB.out | apply below_alloc | apply pw_below_drewN | apply below_drew1) | exact HB.out)))); (case aL => have := LMc30.out; omega); intro v519 w37 ho hb hg hat; rw [← Ny518.out] at ho; have n0_ := Aside0.mk (Kd.R_after (ok := (fun k_ => some k_ ≠ (.slice Ao38 t500.length co38 : Value).ownBlock)) (by (with_reducible repeat (first | apply Kd.R_alloc | apply Kd.R_drewN | apply Kd.R_drew)); exact HO_3.out) hg hat); have n1_ := Aside0.mk (Kd.R_after (ok := (fun k_ => some k_ ≠ (v495 : Value).ownBlock)) (by (with_reducible repeat (first | apply Kd.R_alloc | apply Kd.R_drewN | apply Kd.R_drew)); exact HO_6.out) hg hat); have n2_ := Aside0.mk (hb); have n3_ := Aside0.mk (ho); clear HO_3; clear HO_6; clear HB; clear HO517; have HO_3 := n0_; have HO_6 := n1_; have HB := n2_; have HO520 := n3_; clear n0_ n1_ n2_ n3_; clear ho hb hg hat; obtain ⟨Ao39, co39, eo39⟩ := Kd.R_slice HO520.out; subst eo39) | (go_at_call 23; (with_reducible refine (units_To.calls kj7 _ _ y518 t521 _ ?side1 ?side2 A31.out).mono ?_); (case side1 => repeat (first | exact (Kd.R_reads' HO520.out).2.2 | (with_reducible refine Kd.C_alloc ?_ _) | (with_reducible refine Kd.C_drewN ?_ _) | (with_reducible refine Kd.C_drew ?_))); (case side2 => exact (Kd.R_reads' HO520.out).2.1); rintro e w40 ⟨v522, rfl, ho0, hb⟩; have n0_ := Aside0.mk (Kd.R_below (by (with_reducible repeat (first | apply Kd.R_alloc | apply Kd.R_drewN | apply Kd.R_drew)); exact HO_3.out) hb); have n1_ := Aside0.mk (Kd.R_below (by (with_reducible repeat (first | apply Kd.R_alloc | apply Kd.R_drewN | apply Kd.R_drew)); exact HO_6.out) hb); have n2_ := Aside0.mk (Kd.R_below (by (with_reducible repeat (first | apply Kd.R_alloc | apply Kd.R_drewN | apply Kd.R_drew)); exact HO520.out) hb); have n3_ := Aside0.mk (Kd.R_lower ho0 (below_size (by repeat (first | (with_reducible first | exact HB.out | apply below_alloc | apply pw_below_drewN | apply below_drew1) | exact HB.out)))); have n4_ := Aside0.mk (below_step (by repeat (first | (with_reducible first | exact HB.out | apply below_alloc | apply pw_below_drewN | apply below_drew1) | exact HB.out)) hb); clear HO_3; clear HO_6; clear HO520; clear HB; have HO_3 := n0_; have HO_6 := n1_; have HO520 := n2_; have HO523 := n3_; have HB := n4_; clear n0_ n1_ n2_ n3_ n4_; (try clear hb); (try clear hb2); (try clear hk); (try clear hi); (try clear ho0); obtain ⟨Ao41, co41, eo41⟩ := Kd.R_slice HO523.out; subst eo41) | (go_at_call 25; (with_reducible refine (galleyref03_SameUnits.calls kj7 _ _ t521 _ _ l0 true _ ?side1 ?side2 ?side3 ?side4 A32.out).mono ?_); (case side1 => repeat (first | exact (Kd.R_reads' HO523.out).2.2 | (with_reducible refine Kd.C_alloc ?_ _) | (with_reducible refine Kd.C_drewN ?_ _) | (with_reducible refine Kd.C_drew ?_))); (case side2 => exact (Kd.R_reads' HO523.out).2.1); (case side3 => repeat (first | exact (Kd.C_below HR0.out HB.out) | (with_reducible refine Kd.C_alloc ?_ _) | (with_reducible refine Kd.C_drewN ?_ _) | (with_reducible refine Kd.C_drew ?_))); (case side4 => exact HC0.out); rintro e w' ⟨rfl, ⟨nd, rfl⟩⟩; have hcv42 := fun (m_ : Nat) => own_string (P := Tryd.prog) Tryd.underlying30 Tryd.underlying5 Tryd.underlying9 (Kd.own_of_R (Kd.R_drewN HO_3.out m_)); have hcv43 := fun (m_ : Nat) => own_string (P := Tryd.prog) Tryd.underlying30 Tryd.underlying5 Tryd.underlying9 (Kd.own_of_R (Kd.R_drewN HO_6.out m_))))
                    go_meet
                    case rel => exact ⟨_, (((strOfNums t492).toList != (strOfNums t500).toList)), (by first | rfl | (simp; done) | (simp [*]; done)), H', ⟨by have := HJ7.out; first | omega | exact Nat.le_refl _⟩, ⟨by (with_reducible repeat (first | apply Kd.R_alloc | apply Kd.R_drewN | apply Kd.R_drew)); exact Kd.R_mono HO_3.out (fun _ hk => hk.1)⟩, ⟨by (with_reducible repeat (first | apply Kd.R_alloc | apply Kd.R_drewN | apply Kd.R_drew)); exact Kd.R_mono HO_6.out (fun _ hk => hk.1)⟩, ⟨by repeat (first | (with_reducible first | exact HB.out | apply below_alloc | apply pw_below_drewN | apply below_drew1) | exact HB.out)⟩⟩
                  · rw [if_neg c34] at H
                    have c34b0 : (t494 == 0) = false := beq_eq_false_iff_ne.mpr c34
                    have c34b1 : (t494 != 0) = true := bne_iff_ne.mpr c34
                    have H' := Aside0.mk H
                    clear H
                    go_wp2_with (first | ((with_reducible refine gate_dst (N := 39) rfl ?_); (try refine unguard (by first | rfl | (go_simp; done)) ?_); refine Kd.R_lit (Kd.int .u8) _ 5 ?hg (N := 39) ?hd (xs := ([] : List Int)) (inner := []) (ok := fun _ => True) (okp := fun _ => True) ?hr ?hp (fun _ hk => hk) trivial (Below.refl _ _) (Nat.le_refl _) (by simp) ?_; (case hd => rfl); (case hg => rfl); (case hr => first | (go_simp; done) | (go_simp; rfl)); (case hp => exact (Reps.none _ _)); intro v516 w44 ho45 hb hg_ hnew_; clear hg_ hnew_; (first | rw [← Ny515.out] at ho45 | (simp only [Int.reduceToNat] at ho45; rw [← Ny515.out] at ho45)); have n0_ := Aside0.mk (Kd.R_elder' (by (with_reducible repeat (first | apply Kd.R_alloc | apply Kd.R_drewN | apply Kd.R_drew)); exact HO_3.out) (Kd.R_base ho45) hb); have n1_ := Aside0.mk (Kd.R_elder' (by (with_reducible repeat (first | apply Kd.R_alloc | apply Kd.R_drewN | apply Kd.R_drew)); exact HO_6.out) (Kd.R_base ho45) hb); have n2_ := Aside0.mk (Kd.R_lower (Kd.R_new' (Kd.R_new' ho45 (Kd.R_lt (by (with_reducible repeat (first | apply Kd.R_alloc | apply Kd.R_drewN | apply Kd.R_drew)); exact HO_3.out))) (Kd.R_lt (by (with_reducible repeat (first | apply Kd.R_alloc | apply Kd.R_drewN | apply Kd.R_drew)); exact HO_6.out))) (below_size (by repeat (first | (with_reducible first | exact HB.out | apply below_alloc | apply pw_below_drewN | apply below_drew1) | exact HB.out)))); have n3_ := Aside0.mk (below_step (by repeat (first | (with_reducible first | exact HB.out | apply below_alloc | apply pw_below_drewN | apply below_drew1) | exact HB.out)) hb); clear HO_3; clear HO_6; clear HB; have HO_3 := n0_; have HO_6 := n1_; have HO517 := n2_; have HB := n3_; clear n0_ n1_ n2_ n3_; clear hb ho45; obtain ⟨Ao47, co47, eo47⟩ := Kd.R_slice HO_6.out; subst eo47) | ((with_reducible refine gate_builtin (b := .append) (xs := #[.tmp 39, .tmp 40]) rfl ?_); (try refine unguard (by first | rfl | (go_simp; done)) ?_); at_builtin; refine Kd.R_append_rows (Kd.int .u8) (w0 := w) w.heap.size rfl (.tmp 39) (.tmp 40) 30 5 (.int .u8 0) 1 rfl Tryd.underlying30 info5 rfl (by decide) (by omega) v516 y515 t500 _ _ _ (fun k_ => some k_ ≠ (v495 : Value).ownBlock ∧ some k_ ≠ (.slice Ao47 t500.length co47 : Value).ownBlock) (fun _ => False) rfl rfl ?aO ?aR (fun _ _ h => h) (fun _ h => h.elim) ?aF ?aB ?aS ?aL ?_; (case aR => repeat (first | exact (Kd.R_reads' HO_6.out).2.2 | (with_reducible refine Kd.C_alloc ?_ _) | (with_reducible refine Kd.C_drewN ?_ _) | (with_reducible refine Kd.C_drew ?_))); (case aB => exact (by repeat (first | (with_reducible first | exact HB.out | apply below_alloc | apply pw_below_drewN | apply below_drew1) | exact HB.out))); (case aF => exact (fun k_ hk => ⟨Kd.fresh' (Kd.R_lt (by (with_reducible repeat (first | apply Kd.R_alloc | apply Kd.R_drewN | apply Kd.R_drew)); exact HO_3.out)) k_ hk, Kd.fresh' (Kd.R_lt (by (with_reducible repeat (first | apply Kd.R_alloc | apply Kd.R_drewN | apply Kd.R_drew)); exact HO_6.out)) k_ hk⟩)); (case aO => exact (by (with_reducible repeat (first | apply Kd.R_alloc | apply Kd.R_drewN | apply Kd.R_drew)); exact Kd.R_mono HO517.out (fun _ hk => ⟨hk.1.2, hk.2⟩))); (case aS => exact (below_size (by repeat (first | (with_reducible first | exact HB.out | apply below_alloc | apply pw_below_drewN | apply below_drew1) | exact HB.out)))); (case aL => have := LMc30.out; omega); intro v519 w46 ho hb hg hat; rw [← Ny518.out] at ho; have n0_ := Aside0.mk (Kd.R_after (ok := (fun k_ => some k_ ≠ (.slice Ao47 t500.length co47 : Value).ownBlock)) (by (with_reducible repeat (first | apply Kd.R_alloc | apply Kd.R_drewN | apply Kd.R_drew)); exact HO_3.out) hg hat); have n1_ := Aside0.mk (Kd.R_after (ok := (fun k_ => some k_ ≠ (v495 : Value).ownBlock)) (by (with_reducible repeat (first | apply Kd.R_alloc | apply Kd.R_drewN | apply Kd.R_drew)); exact HO_6.out) hg hat); have n2_ := Aside0.mk (hb); have n3_ := Aside0.mk (ho); clear HO_3; clear HO_6; clear HB; clear HO517; have HO_3 := n0_; have HO_6 := n1_; have HB := n2_; have HO520 := n3_; clear n0_ n1_ n2_ n3_; clear ho hb hg hat; obtain ⟨Ao48, co48, eo48⟩ := Kd.R_slice HO520.out; subst eo48) | (go_at_call 23; (with_reducible refine (units_To.calls kj7 _ _ y518 t521 _ ?side1 ?side2 A31.out).mono ?_); (case side1 => repeat (first | exact (Kd.R_reads' HO520.out).2.2 | (with_reducible refine Kd.C_alloc ?_ _) | (with_reducible refine Kd.C_drewN ?_ _) | (with_reducible refine Kd.C_drew ?_))); (case side2 => exact (Kd.R_reads' HO520.out).2.1); rintro e w49 ⟨v522, rfl, ho0, hb⟩; have n0_ := Aside0.mk (Kd.R_below (by (with_reducible repeat (first | apply Kd.R_alloc | apply Kd.R_drewN | apply Kd.R_drew)); exact HO_3.out) hb); have n1_ := Aside0.mk (Kd.R_below (by (with_reducible repeat (first | apply Kd.R_alloc | apply Kd.R_drewN | apply Kd.R_drew)); exact HO_6.out) hb); have n2_ := Aside0.mk (Kd.R_below (by (with_reducible repeat (first | apply Kd.R_alloc | apply Kd.R_drewN | apply Kd.R_drew)); exact HO520.out) hb); have n3_ := Aside0.mk (Kd.R_lower ho0 (below_size (by repeat (first | (with_reducible first | exact HB.out | apply below_alloc | apply pw_below_drewN | apply below_drew1) | exact HB.out)))); have n4_ := Aside0.mk (below_step (by repeat (first | (with_reducible first | exact HB.out | apply below_alloc | apply pw_below_drewN | apply below_drew1) | exact HB.out)) hb); clear HO_3; clear HO_6; clear HO520; clear HB; have HO_3 := n0_; have HO_6 := n1_; have HO520 := n2_; have HO523 := n3_; have HB := n4_; clear n0_ n1_ n2_ n3_ n4_; (try clear hb); (try clear hb2); (try clear hk); (try clear hi); (try clear ho0); obtain ⟨Ao50, co50, eo50⟩ := Kd.R_slice HO523.out; subst eo50) | (go_at_call 25; (with_reducible refine (galleyref03_SameUnits.calls kj7 _ _ t521 _ _ l0 true _ ?side1 ?side2 ?side3 ?side4 A32.out).mono ?_); (case side1 => repeat (first | exact (Kd.R_reads' HO523.out).2.2 | (with_reducible refine Kd.C_alloc ?_ _) | (with_reducible refine Kd.C_drewN ?_ _) | (with_reducible refine Kd.C_drew ?_))); (case side2 => exact (Kd.R_reads' HO523.out).2.1); (case side3 => repeat (first | exact (Kd.C_below HR0.out HB.out) | (with_reducible refine Kd.C_alloc ?_ _) | (with_reducible refine Kd.C_drewN ?_ _) | (with_reducible refine Kd.C_drew ?_))); (case side4 => exact HC0.out); rintro e w' ⟨rfl, ⟨nd, rfl⟩⟩))
                    go_meet
                    case rel => exact ⟨_, (true), (by first | rfl | (simp; done) | (simp [*]; done)), H', ⟨by have := HJ7.out; first | omega | exact Nat.le_refl _⟩, ⟨by (with_reducible repeat (first | apply Kd.R_alloc | apply Kd.R_drewN | apply Kd.R_drew)); exact Kd.R_mono HO_3.out (fun _ hk => hk.1)⟩, ⟨by (with_reducible repeat (first | apply Kd.R_alloc | apply Kd.R_drewN | apply Kd.R_drew)); exact Kd.R_mono HO_6.out (fun _ hk => hk.1)⟩, ⟨by repeat (first | (with_reducible first | exact HB.out | apply below_alloc | apply pw_below_drewN | apply below_drew1) | exact HB.out)⟩⟩
                · replace c33 := Bool.eq_false_iff.mpr c33
                  subst c33
                  have H1 : (galleylaw03_UnitsOnly.j1 kj7 l0 t492 t493 t494 t500 t501 t502 true) = some r := by rw [if_neg (show ¬ (false = true) by decide)] at H; exact H
                  clear H
                  have H := H1
                  clear H1
                  have H' := Aside0.mk H
                  clear H
                  go_wp2_with (first | ((with_reducible refine gate_dst (N := 39) rfl ?_); (try refine unguard (by first | rfl | (go_simp; done)) ?_); refine Kd.R_lit (Kd.int .u8) _ 5 ?hg (N := 39) ?hd (xs := ([] : List Int)) (inner := []) (ok := fun _ => True) (okp := fun _ => True) ?hr ?hp (fun _ hk => hk) trivial (Below.refl _ _) (Nat.le_refl _) (by simp) ?_; (case hd => rfl); (case hg => rfl); (case hr => first | (go_simp; done) | (go_simp; rfl)); (case hp => exact (Reps.none _ _)); intro v516 w51 ho52 hb hg_ hnew_; clear hg_ hnew_; (first | rw [← Ny515.out] at ho52 | (simp only [Int.reduceToNat] at ho52; rw [← Ny515.out] at ho52)); have n0_ := Aside0.mk (Kd.R_elder' (by (with_reducible repeat (first | apply Kd.R_alloc | apply Kd.R_drewN | apply Kd.R_drew)); exact HO_3.out) (Kd.R_base ho52) hb); have n1_ := Aside0.mk (Kd.R_elder' (by (with_reducible repeat (first | apply Kd.R_alloc | apply Kd.R_drewN | apply Kd.R_drew)); exact HO_6.out) (Kd.R_base ho52) hb); have n2_ := Aside0.mk (Kd.R_lower (Kd.R_new' (Kd.R_new' ho52 (Kd.R_lt (by (with_reducible repeat (first | apply Kd.R_alloc | apply Kd.R_drewN | apply Kd.R_drew)); exact HO_3.out))) (Kd.R_lt (by (with_reducible repeat (first | apply Kd.R_alloc | apply Kd.R_drewN | apply Kd.R_drew)); exact HO_6.out))) (below_size (by repeat (first | (with_reducible first | exact HB.out | apply below_alloc | apply pw_below_drewN | apply below_drew1) | exact HB.out)))); have n3_ := Aside0.mk (below_step (by repeat (first | (with_reducible first | exact HB.out | apply below_alloc | apply pw_below_drewN | apply below_drew1) | exact HB.out)) hb); clear HO_3; clear HO_6; clear HB; have HO_3 := n0_; have HO_6 := n1_; have HO517 := n2_; have HB := n3_; clear n0_ n1_ n2_ n3_; clear hb ho52; obtain ⟨Ao54, co54, eo54⟩ := Kd.R_slice HO_6.out; subst eo54) | ((with_reducible refine gate_builtin (b := .append) (xs := #[.tmp 39, .tmp 40]) rfl ?_); (try refine unguard (by first | rfl | (go_simp; done)) ?_); at_builtin; refine Kd.R_append_rows (Kd.int .u8) (w0 := w) w.heap.size rfl (.tmp 39) (.tmp 40) 30 5 (.int .u8 0) 1 rfl Tryd.underlying30 info5 rfl (by decide) (by omega) v516 y515 t500 _ _ _ (fun k_ => some k_ ≠ (v495 : Value).ownBlock ∧ some k_ ≠ (.slice Ao54 t500.length co54 : Value).ownBlock) (fun _ => False) rfl rfl ?aO ?aR (fun _ _ h => h) (fun _ h => h.elim) ?aF ?aB ?aS ?aL ?_; (case aR => repeat (first | exact (Kd.R_reads' HO_6.out).2.2 | (with_reducible refine Kd.C_alloc ?_ _) | (with_reducible refine Kd.C_drewN ?_ _) | (with_reducible refine Kd.C_drew ?_))); (case aB => exact (by repeat (first | (with_reducible first | exact HB.out | apply below_alloc | apply pw_below_drewN | apply below_drew1) | exact HB.out))); (case aF => exact (fun k_ hk => ⟨Kd.fresh' (Kd.R_lt (by (with_reducible repeat (first | apply Kd.R_alloc | apply Kd.R_drewN | apply Kd.R_drew)); exact HO_3.out)) k_ hk, Kd.fresh' (Kd.R_lt (by (with_reducible repeat (first | apply Kd.R_alloc | apply Kd.R_drewN | apply Kd.R_drew)); exact HO_6.out)) k_ hk⟩)); (case aO => exact (by (with_reducible repeat (first | apply Kd.R_alloc | apply Kd.R_drewN | apply Kd.R_drew)); exact Kd.R_mono HO517.out (fun _ hk => ⟨hk.1.2, hk.2⟩))); (case aS => exact (below_size (by repeat (first | (with_reducible first | exact HB.out | apply below_alloc | apply pw_below_drewN | apply below_drew1) | exact HB.out)))); (case aL => have := LMc30.out; omega); intro v519 w53 ho hb hg hat; rw [← Ny518.out] at ho; have n0_ := Aside0.mk (Kd.R_after (ok := (fun k_ => some k_ ≠ (.slice Ao54 t500.length co54 : Value).ownBlock)) (by (with_reducible repeat (first | apply Kd.R_alloc | apply Kd.R_drewN | apply Kd.R_drew)); exact HO_3.out) hg hat); have n1_ := Aside0.mk (Kd.R_after (ok := (fun k_ => some k_ ≠ (v495 : Value).ownBlock)) (by (with_reducible repeat (first | apply Kd.R_alloc | apply Kd.R_drewN | apply Kd.R_drew)); exact HO_6.out) hg hat); have n2_ := Aside0.mk (hb); have n3_ := Aside0.mk (ho); clear HO_3; clear HO_6; clear HB; clear HO517; have HO_3 := n0_; have HO_6 := n1_; have HB := n2_; have HO520 := n3_; clear n0_ n1_ n2_ n3_; clear ho hb hg hat; obtain ⟨Ao55, co55, eo55⟩ := Kd.R_slice HO520.out; subst eo55) | (go_at_call 23; (with_reducible refine (units_To.calls kj7 _ _ y518 t521 _ ?side1 ?side2 A31.out).mono ?_); (case side1 => repeat (first | exact (Kd.R_reads' HO520.out).2.2 | (with_reducible refine Kd.C_alloc ?_ _) | (with_reducible refine Kd.C_drewN ?_ _) | (with_reducible refine Kd.C_drew ?_))); (case side2 => exact (Kd.R_reads' HO520.out).2.1); rintro e w56 ⟨v522, rfl, ho0, hb⟩; have n0_ := Aside0.mk (Kd.R_below (by (with_reducible repeat (first | apply Kd.R_alloc | apply Kd.R_drewN | apply Kd.R_drew)); exact HO_3.out) hb); have n1_ := Aside0.mk (Kd.R_below (by (with_reducible repeat (first | apply Kd.R_alloc | apply Kd.R_drewN | apply Kd.R_drew)); exact HO_6.out) hb); have n2_ := Aside0.mk (Kd.R_below (by (with_reducible repeat (first | apply Kd.R_alloc | apply Kd.R_drewN | apply Kd.R_drew)); exact HO520.out) hb); have n3_ := Aside0.mk (Kd.R_lower ho0 (below_size (by repeat (first | (with_reducible first | exact HB.out | apply below_alloc | apply pw_below_drewN | apply below_drew1) | exact HB.out)))); have n4_ := Aside0.mk (below_step (by repeat (first | (with_reducible first | exact HB.out | apply below_alloc | apply pw_below_drewN | apply below_drew1) | exact HB.out)) hb); clear HO_3; clear HO_6; clear HO520; clear HB; have HO_3 := n0_; have HO_6 := n1_; have HO520 := n2_; have HO523 := n3_; have HB := n4_; clear n0_ n1_ n2_ n3_ n4_; (try clear hb); (try clear hb2); (try clear hk); (try clear hi); (try clear ho0); obtain ⟨Ao57, co57, eo57⟩ := Kd.R_slice HO523.out; subst eo57) | (go_at_call 25; (with_reducible refine (galleyref03_SameUnits.calls kj7 _ _ t521 _ _ l0 false _ ?side1 ?side2 ?side3 ?side4 A32.out).mono ?_); (case side1 => repeat (first | exact (Kd.R_reads' HO523.out).2.2 | (with_reducible refine Kd.C_alloc ?_ _) | (with_reducible refine Kd.C_drewN ?_ _) | (with_reducible refine Kd.C_drew ?_))); (case side2 => exact (Kd.R_reads' HO523.out).2.1); (case side3 => repeat (first | exact (Kd.C_below HR0.out HB.out) | (with_reducible refine Kd.C_alloc ?_ _) | (with_reducible refine Kd.C_drewN ?_ _) | (with_reducible refine Kd.C_drew ?_))); (case side4 => exact HC0.out); rintro e w' ⟨rfl, ⟨nd, rfl⟩⟩))
                  go_meet
                  case rel => exact ⟨_, (true), (by first | rfl | (simp; done) | (simp [*]; done)), H', ⟨by have := HJ7.out; first | omega | exact Nat.le_refl _⟩, ⟨by (with_reducible repeat (first | apply Kd.R_alloc | apply Kd.R_drewN | apply Kd.R_drew)); exact Kd.R_mono HO_3.out (fun _ hk => hk.1)⟩, ⟨by (with_reducible repeat (first | apply Kd.R_alloc | apply Kd.R_drewN | apply Kd.R_drew)); exact Kd.R_mono HO_6.out (fun _ hk => hk.1)⟩, ⟨by repeat (first | (with_reducible first | exact HB.out | apply below_alloc | apply pw_below_drewN | apply below_drew1) | exact HB.out)⟩⟩
              · rw [if_neg c30] at H
                exact absurd H (by simp)
            · rw [if_neg c29] at H
              have c29b0 : (t502 == 0) = false := beq_eq_false_iff_ne.mpr c29
              have c29b1 : (t502 != 0) = true := bne_iff_ne.mpr c29
              (first | rw [c29b0] | (simp only [i64_w, i32_w]; rw [c29b0]) | skip)
              have H' := Aside0.mk H
              clear H
              go_wp2
              go_meet
              case rel => exact ⟨_, (false), (by first | rfl | (simp; done) | (simp [*]; done)), H', ⟨by have := HJ7.out; first | omega | exact Nat.le_refl _⟩, ⟨by (with_reducible repeat (first | apply Kd.R_alloc | apply Kd.R_drewN | apply Kd.R_drew)); exact HO_3.out⟩, ⟨by (with_reducible repeat (first | apply Kd.R_alloc | apply Kd.R_drewN | apply Kd.R_drew)); exact HO_6.out⟩, ⟨by repeat (first | (with_reducible first | exact HB.out | apply below_alloc | apply pw_below_drewN | apply below_drew1) | exact HB.out)⟩⟩
          case rest =>
            clear HC28
            try clear c1
            try clear c2
            try clear p2
            try clear c3
            try clear c4
            try clear hcv4
            try clear c9
            try clear c16
            try clear c16b0
            try clear c16b1
            try clear c17
            try clear c27
            try clear c29
            try clear c29b0
            try clear c29b1
            try clear c30
            try clear c33
            try clear c34
            try clear c34b0
            try clear c34b1
            try clear c37
            try clear c38
            try clear c40
            try clear hcv42
            try clear hcv43
            try clear p2
            obtain ⟨kq, x57_27, rfl, HA, HJ27, HO_3, HO_6, HB⟩ := hcut
            cases kq with
            | zero => exact absurd HA.out (by simp [galleylaw03_UnitsOnly.j1])
            | succ kj27 =>
              have H := HA.out
              clear HA
              simp only [galleylaw03_UnitsOnly.j1] at H
              by_cases c58 : x57_27 = true
              · subst c58
                have H1 : (some false) = some r := by rw [if_pos rfl] at H; exact H
                clear H
                have H := H1
                clear H1
                obtain rfl := Option.some.inj H
                go_wp2
                go_ret
                exact ⟨by first | rfl | (simp [errW_none, errW_some] <;> rfl) | (simp [*, errW_none, errW_some] <;> rfl), by repeat (first | (with_reducible first | exact HB.out | apply below_alloc | apply pw_below_drewN | apply below_drew1) | exact HB.out)⟩
              · replace c58 := Bool.eq_false_iff.mpr c58
                subst c58
                have H1 : (if t494 = 0 then (if t502 = 0 then (some true) else (if (t500.length : Int) = 0 then (if t501 ≥ 0 then (if t501 < (l0.length : Int) then (some true) else (some false)) else (some false)) else (some false))) else (if (t492.length : Int) = 0 then (if t493 < 0 then (some false) else (if t493 ≥ (l0.length : Int) then (some false) else (if t502 = 0 then (some true) else (if (t500.length : Int) = 0 then (if t501 ≥ 0 then (if t501 < (l0.length : Int) then (some (decide (t501 ≤ t493))) else (some false)) else (some false)) else (some false))))) else (some false))) = some r := by rw [if_neg (show ¬ (false = true) by decide)] at H; exact H
                clear H
                have H := H1
                clear H1
                by_cases c59 : t494 = 0
                · rw [if_pos c59] at H
                  have c59b0 : (t494 == 0) = true := beq_iff_eq.mpr c59
                  have c59b1 : (t494 != 0) = false := bne_eq_false_iff_eq.mpr c59
                  clear c59
                  by_cases c60 : t502 = 0
                  · rw [if_pos c60] at H
                    have c60b0 : (t502 == 0) = true := beq_iff_eq.mpr c60
                    have c60b1 : (t502 != 0) = false := bne_eq_false_iff_eq.mpr c60
                    clear c60
                    obtain rfl := Option.some.inj H
                    go_wp2
                    go_ret
                    exact ⟨by first | rfl | (simp [errW_none, errW_some] <;> rfl) | (simp [*, errW_none, errW_some] <;> rfl), by repeat (first | (with_reducible first | exact HB.out | apply below_alloc | apply pw_below_drewN | apply below_drew1) | exact HB.out)⟩
                  · rw [if_neg c60] at H
                    have c60b0 : (t502 == 0) = false := beq_eq_false_iff_ne.mpr c60
                    have c60b1 : (t502 != 0) = true := bne_iff_ne.mpr c60
                    by_cases c61 : (t500.length : Int) = 0
                    · rw [if_pos c61] at H
                      have c61b0 : ((t500.length : Int) == 0) = true := beq_iff_eq.mpr c61
                      have c61b1 : ((t500.length : Int) != 0) = false := bne_eq_false_iff_eq.mpr c61
                      clear c61
                      by_cases c62 : t501 ≥ 0
                      · rw [if_pos c62] at H
                        have c62b0 : decide (0 ≤ t501) = true := decide_eq_true c62
                        clear c62
                        by_cases c63 : t501 < (l0.length : Int)
                        · rw [if_pos c63] at H
                          have c63b0 : decide (t501 < (l0.length : Int)) = true := decide_eq_true c63
                          clear c63
                          obtain rfl := Option.some.inj H
                          obtain ⟨Ao64, co64, eo64⟩ := Kd.R_slice HO_6.out
                          subst eo64
                          go_wp2
                          go_ret
                          exact ⟨by first | rfl | (simp [errW_none, errW_some] <;> rfl) | (simp [*, errW_none, errW_some] <;> rfl), by repeat (first | (with_reducible first | exact HB.out | apply below_alloc | apply pw_below_drewN | apply below_drew1) | exact HB.out)⟩
                        · rw [if_neg c63] at H
                          have c63b0 : decide (t501 < (l0.length : Int)) = false := decide_eq_false c63
                          clear c63
                          obtain rfl := Option.some.inj H
                          obtain ⟨Ao65, co65, eo65⟩ := Kd.R_slice HO_6.out
                          subst eo65
                          go_wp2
                          go_ret
                          exact ⟨by first | rfl | (simp [errW_none, errW_some] <;> rfl) | (simp [*, errW_none, errW_some] <;> rfl), by repeat (first | (with_reducible first | exact HB.out | apply below_alloc | apply pw_below_drewN | apply below_drew1) | exact HB.out)⟩
                      · rw [if_neg c62] at H
                        have c62b0 : decide (0 ≤ t501) = false := decide_eq_false c62
                        clear c62
                        obtain rfl := Option.some.inj H
                        obtain ⟨Ao66, co66, eo66⟩ := Kd.R_slice HO_6.out
                        subst eo66
                        go_wp2
                        go_ret
                        exact ⟨by first | rfl | (simp [errW_none, errW_some] <;> rfl) | (simp [*, errW_none, errW_some] <;> rfl), by repeat (first | (with_reducible first | exact HB.out | apply below_alloc | apply pw_below_drewN | apply below_drew1) | exact HB.out)⟩
                    · rw [if_neg c61] at H
                      have c61b0 : ((t500.length : Int) == 0) = false := beq_eq_false_iff_ne.mpr c61
                      have c61b1 : ((t500.length : Int) != 0) = true := bne_iff_ne.mpr c61
                      have c61b2 : ¬ (t500 = []) := fun h_ => c61 (by rw [h_]; rfl)
                      obtain rfl := Option.some.inj H
                      obtain ⟨Ao67, co67, eo67⟩ := Kd.R_slice HO_6.out
                      subst eo67
                      go_wp2
                      go_ret
                      exact ⟨by first | rfl | (simp [errW_none, errW_some] <;> rfl) | (simp [*, errW_none, errW_some] <;> rfl), by repeat (first | (with_reducible first | exact HB.out | apply below_alloc | apply pw_below_drewN | apply below_drew1) | exact HB.out)⟩
                · rw [if_neg c59] at H
                  have c59b0 : (t494 == 0) = false := beq_eq_false_iff_ne.mpr c59
                  have c59b1 : (t494 != 0) = true := bne_iff_ne.mpr c59
                  by_cases c68 : (t492.length : Int) = 0
                  · rw [if_pos c68] at H
                    have c68b0 : ((t492.length : Int) == 0) = true := beq_iff_eq.mpr c68
                    have c68b1 : ((t492.length : Int) != 0) = false := bne_eq_false_iff_eq.mpr c68
                    clear c68
                    by_cases c69 : t493 < 0
                    · rw [if_pos c69] at H
                      have c69b0 : decide (t493 < 0) = true := decide_eq_true c69
                      clear c69
                      obtain rfl := Option.some.inj H
                      obtain ⟨Ao70, co70, eo70⟩ := Kd.R_slice HO_3.out
                      subst eo70
                      go_wp2
                      go_ret
                      exact ⟨by first | rfl | (simp [errW_none, errW_some] <;> rfl) | (simp [*, errW_none, errW_some] <;> rfl), by repeat (first | (with_reducible first | exact HB.out | apply below_alloc | apply pw_below_drewN | apply below_drew1) | exact HB.out)⟩
                    · rw [if_neg c69] at H
                      have c69b0 : decide (t493 < 0) = false := decide_eq_false c69
                      clear c69
                      by_cases c71 : t493 ≥ (l0.length : Int)
                      · rw [if_pos c71] at H
                        have c71b0 : decide ((l0.length : Int) ≤ t493) = true := decide_eq_true c71
                        clear c71
                        obtain rfl := Option.some.inj H
                        obtain ⟨Ao72, co72, eo72⟩ := Kd.R_slice HO_3.out
                        subst eo72
                        go_wp2
                        go_ret
                        exact ⟨by first | rfl | (simp [errW_none, errW_some] <;> rfl) | (simp [*, errW_none, errW_some] <;> rfl), by repeat (first | (with_reducible first | exact HB.out | apply below_alloc | apply pw_below_drewN | apply below_drew1) | exact HB.out)⟩
                      · rw [if_neg c71] at H
                        have c71b0 : decide ((l0.length : Int) ≤ t493) = false := decide_eq_false c71
                        clear c71
                        by_cases c73 : t502 = 0
                        · rw [if_pos c73] at H
                          have c73b0 : (t502 == 0) = true := beq_iff_eq.mpr c73
                          have c73b1 : (t502 != 0) = false := bne_eq_false_iff_eq.mpr c73
                          clear c73
                          obtain rfl := Option.some.inj H
                          obtain ⟨Ao74, co74, eo74⟩ := Kd.R_slice HO_3.out
                          subst eo74
                          go_wp2
                          go_ret
                          exact ⟨by first | rfl | (simp [errW_none, errW_some] <;> rfl) | (simp [*, errW_none, errW_some] <;> rfl), by repeat (first | (with_reducible first | exact HB.out | apply below_alloc | apply pw_below_drewN | apply below_drew1) | exact HB.out)⟩
                        · rw [if_neg c73] at H
                          have c73b0 : (t502 == 0) = false := beq_eq_false_iff_ne.mpr c73
                          have c73b1 : (t502 != 0) = true := bne_iff_ne.mpr c73
                          by_cases c75 : (t500.length : Int) = 0
                          · rw [if_pos c75] at H
                            have c75b0 : ((t500.length : Int) == 0) = true := beq_iff_eq.mpr c75
                            have c75b1 : ((t500.length : Int) != 0) = false := bne_eq_false_iff_eq.mpr c75
                            clear c75
                            by_cases c76 : t501 ≥ 0
                            · rw [if_pos c76] at H
                              have c76b0 : decide (0 ≤ t501) = true := decide_eq_true c76
                              clear c76
                              by_cases c77 : t501 < (l0.length : Int)
                              · rw [if_pos c77] at H
                                have c77b0 : decide (t501 < (l0.length : Int)) = true := decide_eq_true c77
                                clear c77
                                obtain rfl := Option.some.inj H
                                obtain ⟨Ao78, co78, eo78⟩ := Kd.R_slice HO_3.out
                                subst eo78
                                obtain ⟨Ao79, co79, eo79⟩ := Kd.R_slice HO_6.out
                                subst eo79
                                go_wp2
                                go_ret
                                exact ⟨by first | rfl | (simp [errW_none, errW_some] <;> rfl) | (simp [*, errW_none, errW_some] <;> rfl), by repeat (first | (with_reducible first | exact HB.out | apply below_alloc | apply pw_below_drewN | apply below_drew1) | exact HB.out)⟩
                              · rw [if_neg c77] at H
                                have c77b0 : decide (t501 < (l0.length : Int)) = false := decide_eq_false c77
                                clear c77
                                obtain rfl := Option.some.inj H
                                obtain ⟨Ao80, co80, eo80⟩ := Kd.R_slice HO_3.out
                                subst eo80
                                obtain ⟨Ao81, co81, eo81⟩ := Kd.R_slice HO_6.out
                                subst eo81
                                go_wp2
                                go_ret
                                exact ⟨by first | rfl | (simp [errW_none, errW_some] <;> rfl) | (simp [*, errW_none, errW_some] <;> rfl), by repeat (first | (with_reducible first | exact HB.out | apply below_alloc | apply pw_below_drewN | apply below_drew1) | exact HB.out)⟩
                            · rw [if_neg c76] at H
                              have c76b0 : decide (0 ≤ t501) = false := decide_eq_false c76
                              clear c76
                              obtain rfl := Option.some.inj H
                              obtain ⟨Ao82, co82, eo82⟩ := Kd.R_slice HO_3.out
                              subst eo82
                              obtain ⟨Ao83, co83, eo83⟩ := Kd.R_slice HO_6.out
                              subst eo83
                              go_wp2
                              go_ret
                              exact ⟨by first | rfl | (simp [errW_none, errW_some] <;> rfl) | (simp [*, errW_none, errW_some] <;> rfl), by repeat (first | (with_reducible first | exact HB.out | apply below_alloc | apply pw_below_drewN | apply below_drew1) | exact HB.out)⟩
                          · rw [if_neg c75] at H
                            have c75b0 : ((t500.length : Int) == 0) = false := beq_eq_false_iff_ne.mpr c75
                            have c75b1 : ((t500.length : Int) != 0) = true := bne_iff_ne.mpr c75
                            have c75b2 : ¬ (t500 = []) := fun h_ => c75 (by rw [h_]; rfl)
                            obtain rfl := Option.some.inj H
                            obtain ⟨Ao84, co84, eo84⟩ := Kd.R_slice HO_3.out
                            subst eo84
                            obtain ⟨Ao85, co85, eo85⟩ := Kd.R_slice HO_6.out
                            subst eo85
                            go_wp2
                            go_ret
                            exact ⟨by first | rfl | (simp [errW_none, errW_some] <;> rfl) | (simp [*, errW_none, errW_some] <;> rfl), by repeat (first | (with_reducible first | exact HB.out | apply below_alloc | apply pw_below_drewN | apply below_drew1) | exact HB.out)⟩
                  · rw [if_neg c68] at H
                    have c68b0 : ((t492.length : Int) == 0) = false := beq_eq_false_iff_ne.mpr c68
                    have c68b1 : ((t492.length : Int) != 0) = true := bne_iff_ne.mpr c68
                    have c68b2 : ¬ (t492 = []) := fun h_ => c68 (by rw [h_]; rfl)
                    obtain rfl := Option.some.inj H
                    obtain ⟨Ao86, co86, eo86⟩ := Kd.R_slice HO_3.out
                    subst eo86
                    go_wp2
                    go_ret
                    exact ⟨by first | rfl | (simp [errW_none, errW_some] <;> rfl) | (simp [*, errW_none, errW_some] <;> rfl), by repeat (first | (with_reducible first | exact HB.out | apply below_alloc | apply pw_below_drewN | apply below_drew1) | exact HB.out)⟩
  · replace c3 := Bool.eq_false_iff.mpr c3
    subst c3
    have H1 : (some false) = some r := by rw [if_neg (show ¬ (false = true) by decide)] at H; exact H
    clear H
    have H := H1
    clear H1
    obtain rfl := Option.some.inj H
    go_enter Tryd.func9, Tryd.ntmps9
    go_wp2_with (first | ((with_reducible refine gate_callee (f := 16) rfl ?_); (try refine unguard (by first | rfl | (go_simp; done)) ?_); refine goesL_ (some 9) rfl rfl Tryd.func16 (by kernel_rfl) rfl #[] rfl (by (try simp only [List.map_toArray, List.map_cons, List.map_nil]); first | done | rfl | (simp only [List.length_drop, List.length_take]; rfl)) ?_; (with_reducible refine (galleylaw03_wakes.calls k  false _ ?sideG A2.out).mono ?_); (case sideG => exact Glob.lift HG.out (by repeat (first | (with_reducible first | exact HB.out | apply below_alloc | apply pw_below_drewN | apply below_drew1) | exact HB.out))); rintro e w87 ⟨rfl, hb⟩; refine ⟨_, rfl, ?_⟩; have n0_ := Aside0.mk (below_step (by repeat (first | (with_reducible first | exact HB.out | apply below_alloc | apply pw_below_drewN | apply below_drew1) | exact HB.out)) hb); clear HB; have HB := n0_; clear n0_; (try clear hb); (try clear hb2); (try clear hk); (try clear hi)))
    go_ret
    exact ⟨by first | rfl | (simp [errW_none, errW_some] <;> rfl) | (simp [*, errW_none, errW_some] <;> rfl), by repeat (first | (with_reducible first | exact HB.out | apply below_alloc | apply pw_below_drewN | apply below_drew1) | exact HB.out)⟩

/-- THE ONE PURE STATEMENT of galleylaw03_UnitsOnly: yours. -/
def galleylaw03_UnitsOnly.Pure : Prop := ∀ (l0 : List Int), l0.length ≤ maxLen → l0.length * 2 ≤ 140737488351232 → (∀ x ∈ l0, (Lit.int .u16 x).wf = true) → ∃ k, galleylaw03_UnitsOnly.f k l0 = some true
theorem galleylaw03_UnitsOnly.walk (P : galleylaw03_UnitsOnly.Pure) (a0 : Option Addr) (len0 cap0 : Nat) (z0 : List Int) (w : World) (w0 : (a0 = none ∧ len0 = 0 ∧ cap0 = 0 ∧ z0 = []) ∨ ∃ x, a0 = some x ∧ len0 ≤ cap0 ∧ cap0 ≤ maxLen ∧ z0.length = cap0 ∧ (∀ i, i < z0.length → w.cell? (x.add i) = some (.int .u16 (z0.getD i 0))) ∧ ∀ n ∈ z0, (Lit.int .u16 n).wf = true) (y0 : len0 * 2 ≤ 140737488351232) (hG : Glob w) :
    Calls Tryd.prog 9 #[.slice a0 len0 cap0] w fun e w' => e = .returned (.bool true) ∧ Below w.heap.size w w' := by
  obtain ⟨l0, rfl, hr0, hm0, hw0, hc0⟩ := ReadsInt.ofRowC w0
  obtain ⟨k, h⟩ := P l0 hm0 y0 hw0
  refine (galleylaw03_UnitsOnly.calls k _ _ l0 true w (Kd.C_of_reads (d := (0 : Int)) (h1 := fun _ => rfl) hr0) hc0 hG h).mono ?_
  rintro e w' ⟨rfl, hd⟩
  exact ⟨rfl, hd⟩
end Go.Proofs.YtcdehlnkilcgaaaDoor.Q
