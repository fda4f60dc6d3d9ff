/- Contracts of the Go functions galley/octet.Class, galley/octet.Need, galley/octet.second, galley/octet.Second, galley/octet.Whole: each call answers what the Lean function of its name answers. (Most lines were written by the kit's print program and then turned for this seat.) -/
import Derived.Test.YtcdehlnkilcgaaaDoorQ0
namespace Go.Proofs.YtcdehlnkilcgaaaDoor.Q
open Go.RowKit Go.Proofs.YtcdehlnkilcgaaaDoorW.PrintWords Go.Proofs.YtcdehlnkilcgaaaDoorW.PrintLast Go.Proofs.YtcdehlnkilcgaaaDoorW.PrintMore
attribute [local go_sem] max2_int min2_int max_two min_two max_three min_three max_four min_four
set_option linter.unusedVariables false
set_option linter.unusedSimpArgs false
/-! ### octet_Class: function 76 -/
def clsOf (b : Int) : Int := if b < 128 then 1 else if b < 192 then 2 else if b < 194 then 6 else if b < 224 then 3 else if b < 240 then 4 else if b < 245 then 5 else 6
def octet_Class.f (a0 : Int) : Option (Int) := if 0 ≤ a0 ∧ a0 ≤ 255 then some (clsOf a0) else none
def lo7 (k : Nat) : Int := [0, 128, 192, 194, 224, 240, 245].getD k 0
set_option maxHeartbeats 1000000 in
set_option maxRecDepth 100000 in
theorem octet_Class.calls (a0 : Int) (r : Int) (w : World) (hG : Glob w) (h : octet_Class.f a0 = some r) :
    Calls Tryd.prog 76 #[.int .u8 a0] w fun e w' => e = .returned (.int .i64 r) ∧ Below w.heap.size w w' := by
  unfold octet_Class.f at h
  have hb : 0 ≤ a0 ∧ a0 ≤ 255 := by
    by_cases hb : 0 ≤ a0 ∧ a0 ≤ 255
    · exact hb
    · rw [if_neg hb] at h; cases h
  rw [if_pos hb] at h
  obtain ⟨hb0, hb1⟩ := hb
  have HR := Aside0.mk (Option.some.inj h)
  clear h
  obtain ⟨t, fr, hg⟩ := hG.2
  have HG := Aside0.mk hg
  clear hg hG
  go_enter Tryd.func76, Tryd.ntmps76
  go_wp2_with (refine wpList_load_row rfl 94 (.global 1) rfl 1 rfl t spansV fr _ HG.out Tryd.underlying94 rfl (by kernel_rfl) ?_)
  go_loopw [6] (fun i w' => ∃ k : Nat, k ≤ 7 ∧ i = .int .i64 k ∧ (k < 7 → lo7 k ≤ a0) ∧ (k = 7 → False) ∧ Below w.heap.size w w') (fun i _ => 8 - (intOf i).toNat)
  case atStart => exact ⟨0, by omega, rfl, fun _ => hb0, fun h => by omega, Below.refl _ _⟩
  case round =>
    obtain ⟨k, hk, rfl, hlo, h7, hbw⟩ := hrel
    have h7' : k ≠ 7 := h7
    clear h7
    rcases (by omega : k = 0 ∨ k = 1 ∨ k = 2 ∨ k = 3 ∨ k = 4 ∨ k = 5 ∨ k = 6) with rfl | rfl | rfl | rfl | rfl | rfl | rfl
    · have hix : ∀ W, (Instr.index 94 (.agg spansV) (.int .i64 0)).run Tryd.prog W = .ok (.agg #[.int .i64 0, .int .i64 127, .int .i64 1]) W := fun _ => by kernel_rfl
      have hl : 0 ≤ a0 := hlo (by omega)
      have hl1 : decide ((0 : Int) ≤ a0) = true := decide_eq_true hl
      clear hlo
      by_cases hh : a0 ≤ 127
      · have hh1 : decide (a0 ≤ (127 : Int)) = true := decide_eq_true hh
        have hr : r = 1 := by
          have := HR.out
          unfold clsOf at this
          repeat' split at this
          all_goals omega
        subst hr
        go_wp2
        go_ret
        exact ⟨rfl, by repeat (first | exact hbw | apply below_alloc | apply pw_below_drewN | apply below_drew1)⟩
      · have hh1 : decide (a0 ≤ (127 : Int)) = false := decide_eq_false hh
        have hl2 : 128 ≤ a0 := by omega
        clear hh hl
        go_wp2
        go_roundw
        case rel => exact ⟨1, by omega, rfl, fun _ => hl2, by omega, by repeat (first | exact hbw | apply below_alloc | apply pw_below_drewN | apply below_drew1)⟩
        case measure => simp [intOf]
    · have hix : ∀ W, (Instr.index 94 (.agg spansV) (.int .i64 1)).run Tryd.prog W = .ok (.agg #[.int .i64 128, .int .i64 191, .int .i64 2]) W := fun _ => by kernel_rfl
      have hl : 128 ≤ a0 := hlo (by omega)
      have hl1 : decide ((128 : Int) ≤ a0) = true := decide_eq_true hl
      clear hlo
      by_cases hh : a0 ≤ 191
      · have hh1 : decide (a0 ≤ (191 : Int)) = true := decide_eq_true hh
        have hr : r = 2 := by
          have := HR.out
          unfold clsOf at this
          repeat' split at this
          all_goals omega
        subst hr
        go_wp2
        go_ret
        exact ⟨rfl, by repeat (first | exact hbw | apply below_alloc | apply pw_below_drewN | apply below_drew1)⟩
      · have hh1 : decide (a0 ≤ (191 : Int)) = false := decide_eq_false hh
        have hl2 : 192 ≤ a0 := by omega
        clear hh hl
        go_wp2
        go_roundw
        case rel => exact ⟨2, by omega, rfl, fun _ => hl2, by omega, by repeat (first | exact hbw | apply below_alloc | apply pw_below_drewN | apply below_drew1)⟩
        case measure => simp [intOf]
    · have hix : ∀ W, (Instr.index 94 (.agg spansV) (.int .i64 2)).run Tryd.prog W = .ok (.agg #[.int .i64 192, .int .i64 193, .int .i64 6]) W := fun _ => by kernel_rfl
      have hl : 192 ≤ a0 := hlo (by omega)
      have hl1 : decide ((192 : Int) ≤ a0) = true := decide_eq_true hl
      clear hlo
      by_cases hh : a0 ≤ 193
      · have hh1 : decide (a0 ≤ (193 : Int)) = true := decide_eq_true hh
        have hr : r = 6 := by
          have := HR.out
          unfold clsOf at this
          repeat' split at this
          all_goals omega
        subst hr
        go_wp2
        go_ret
        exact ⟨rfl, by repeat (first | exact hbw | apply below_alloc | apply pw_below_drewN | apply below_drew1)⟩
      · have hh1 : decide (a0 ≤ (193 : Int)) = false := decide_eq_false hh
        have hl2 : 194 ≤ a0 := by omega
        clear hh hl
        go_wp2
        go_roundw
        case rel => exact ⟨3, by omega, rfl, fun _ => hl2, by omega, by repeat (first | exact hbw | apply below_alloc | apply pw_below_drewN | apply below_drew1)⟩
        case measure => simp [intOf]
    · have hix : ∀ W, (Instr.index 94 (.agg spansV) (.int .i64 3)).run Tryd.prog W = .ok (.agg #[.int .i64 194, .int .i64 223, .int .i64 3]) W := fun _ => by kernel_rfl
      have hl : 194 ≤ a0 := hlo (by omega)
      have hl1 : decide ((194 : Int) ≤ a0) = true := decide_eq_true hl
      clear hlo
      by_cases hh : a0 ≤ 223
      · have hh1 : decide (a0 ≤ (223 : Int)) = true := decide_eq_true hh
        have hr : r = 3 := by
          have := HR.out
          unfold clsOf at this
          repeat' split at this
          all_goals omega
        subst hr
        go_wp2
        go_ret
        exact ⟨rfl, by repeat (first | exact hbw | apply below_alloc | apply pw_below_drewN | apply below_drew1)⟩
      · have hh1 : decide (a0 ≤ (223 : Int)) = false := decide_eq_false hh
        have hl2 : 224 ≤ a0 := by omega
        clear hh hl
        go_wp2
        go_roundw
        case rel => exact ⟨4, by omega, rfl, fun _ => hl2, by omega, by repeat (first | exact hbw | apply below_alloc | apply pw_below_drewN | apply below_drew1)⟩
        case measure => simp [intOf]
    · have hix : ∀ W, (Instr.index 94 (.agg spansV) (.int .i64 4)).run Tryd.prog W = .ok (.agg #[.int .i64 224, .int .i64 239, .int .i64 4]) W := fun _ => by kernel_rfl
      have hl : 224 ≤ a0 := hlo (by omega)
      have hl1 : decide ((224 : Int) ≤ a0) = true := decide_eq_true hl
      clear hlo
      by_cases hh : a0 ≤ 239
      · have hh1 : decide (a0 ≤ (239 : Int)) = true := decide_eq_true hh
        have hr : r = 4 := by
          have := HR.out
          unfold clsOf at this
          repeat' split at this
          all_goals omega
        subst hr
        go_wp2
        go_ret
        exact ⟨rfl, by repeat (first | exact hbw | apply below_alloc | apply pw_below_drewN | apply below_drew1)⟩
      · have hh1 : decide (a0 ≤ (239 : Int)) = false := decide_eq_false hh
        have hl2 : 240 ≤ a0 := by omega
        clear hh hl
        go_wp2
        go_roundw
        case rel => exact ⟨5, by omega, rfl, fun _ => hl2, by omega, by repeat (first | exact hbw | apply below_alloc | apply pw_below_drewN | apply below_drew1)⟩
        case measure => simp [intOf]
    · have hix : ∀ W, (Instr.index 94 (.agg spansV) (.int .i64 5)).run Tryd.prog W = .ok (.agg #[.int .i64 240, .int .i64 244, .int .i64 5]) W := fun _ => by kernel_rfl
      have hl : 240 ≤ a0 := hlo (by omega)
      have hl1 : decide ((240 : Int) ≤ a0) = true := decide_eq_true hl
      clear hlo
      by_cases hh : a0 ≤ 244
      · have hh1 : decide (a0 ≤ (244 : Int)) = true := decide_eq_true hh
        have hr : r = 5 := by
          have := HR.out
          unfold clsOf at this
          repeat' split at this
          all_goals omega
        subst hr
        go_wp2
        go_ret
        exact ⟨rfl, by repeat (first | exact hbw | apply below_alloc | apply pw_below_drewN | apply below_drew1)⟩
      · have hh1 : decide (a0 ≤ (244 : Int)) = false := decide_eq_false hh
        have hl2 : 245 ≤ a0 := by omega
        clear hh hl
        go_wp2
        go_roundw
        case rel => exact ⟨6, by omega, rfl, fun _ => hl2, by omega, by repeat (first | exact hbw | apply below_alloc | apply pw_below_drewN | apply below_drew1)⟩
        case measure => simp [intOf]
    · have hix : ∀ W, (Instr.index 94 (.agg spansV) (.int .i64 6)).run Tryd.prog W = .ok (.agg #[.int .i64 245, .int .i64 255, .int .i64 6]) W := fun _ => by kernel_rfl
      have hl : 245 ≤ a0 := hlo (by omega)
      have hl1 : decide ((245 : Int) ≤ a0) = true := decide_eq_true hl
      clear hlo
      by_cases hh : a0 ≤ 255
      · have hh1 : decide (a0 ≤ (255 : Int)) = true := decide_eq_true hh
        have hr : r = 6 := by
          have := HR.out
          unfold clsOf at this
          repeat' split at this
          all_goals omega
        subst hr
        go_wp2
        go_ret
        exact ⟨rfl, by repeat (first | exact hbw | apply below_alloc | apply pw_below_drewN | apply below_drew1)⟩
      · exact absurd hb1 hh

/-! ### octet_Need: function 75 -/
def needOf (b : Int) : Int := if b < 128 then 1 else if b < 194 then 0 else if b < 224 then 2 else if b < 240 then 3 else if b < 245 then 4 else 0
def octet_Need.f (a0 : Int) : Option (Int) := if 0 ≤ a0 ∧ a0 ≤ 255 then some (needOf a0) else none
theorem cls_need (b : Int) : ∃ k : Nat, clsOf b = (k : Int) ∧ k < 7 ∧ needsV[k]? = some (.int .i64 (needOf b)) := by
  unfold clsOf needOf
  by_cases h1 : b < 128
  · rw [if_pos h1, if_pos h1]; exact ⟨1, rfl, by omega, rfl⟩
  · rw [if_neg h1, if_neg h1]
    by_cases h2 : b < 192
    · rw [if_pos h2, if_pos (by omega)]; exact ⟨2, rfl, by omega, rfl⟩
    · rw [if_neg h2]
      by_cases h3 : b < 194
      · rw [if_pos h3, if_pos h3]; exact ⟨6, rfl, by omega, rfl⟩
      · rw [if_neg h3, if_neg h3]
        by_cases h4 : b < 224
        · rw [if_pos h4, if_pos h4]; exact ⟨3, rfl, by omega, rfl⟩
        · rw [if_neg h4, if_neg h4]
          by_cases h5 : b < 240
          · rw [if_pos h5, if_pos h5]; exact ⟨4, rfl, by omega, rfl⟩
          · rw [if_neg h5, if_neg h5]
            by_cases h6 : b < 245
            · rw [if_pos h6, if_pos h6]; exact ⟨5, rfl, by omega, rfl⟩
            · rw [if_neg h6, if_neg h6]; exact ⟨6, rfl, by omega, rfl⟩
set_option maxHeartbeats 1000000 in
set_option maxRecDepth 100000 in
theorem octet_Need.calls (a0 : Int) (r : Int) (w : World) (hG : Glob w) (h : octet_Need.f a0 = some r) :
    Calls Tryd.prog 75 #[.int .u8 a0] w fun e w' => e = .returned (.int .i64 r) ∧ Below w.heap.size w w' := by
  unfold octet_Need.f at h
  have hb : 0 ≤ a0 ∧ a0 ≤ 255 := by
    by_cases hb : 0 ≤ a0 ∧ a0 ≤ 255
    · exact hb
    · rw [if_neg hb] at h; cases h
  rw [if_pos hb] at h
  obtain rfl := Option.some.inj h
  clear h
  obtain ⟨k, hk, hk7, hc⟩ := cls_need a0
  have HCL := Aside0.mk (show octet_Class.f a0 = some (k : Int) by unfold octet_Class.f; rw [if_pos hb, hk])
  clear hk
  obtain ⟨t, fr, hg⟩ := hG.1
  have hcell : w.cell? ⟨0, k, none⟩ = some (.int .i64 (needOf a0)) := by
    rw [cell_of_row w 0 k needsV t fr hg]; exact hc
  have hlt : (k : Int) < 7 := by omega
  have HG := Aside0.mk hG
  have HCE := Aside0.mk hcell
  clear hcell hg hc hG hb
  go_enter Tryd.func75, Tryd.ntmps75
  go_wp2_with (first | (go_at_call 76; refine (octet_Class.calls a0 (k : Int) _ HG.out HCL.out).mono ?_; rintro e w1 ⟨rfl, hb1⟩; have hcell1 : w1.cell? ⟨0, k, none⟩ = some (.int .i64 (needOf a0)) := pw_cell_below hb1 HCE.out))
  all_goals (go_ret; exact ⟨rfl, by assumption⟩)

/-! ### octet_second: function 82 -/
def octet_second.f (a0 : Int) : Option (Int × Int) := if a0 = 224 then (some (160, 191)) else (if a0 = 237 then (some (128, 159)) else (if a0 = 240 then (some (144, 191)) else (if a0 = 244 then (some (128, 143)) else ((octet_Need.f a0).bind fun t162 => (if t162 > 1 then (some (128, 191)) else (some (1, 0)))))))
set_option maxHeartbeats 8000000 in
set_option maxRecDepth 100000 in
theorem octet_second.calls (a0 : Int) (r1 : Int) (r2 : Int) (w : World) (hG : Glob w) (h : octet_second.f a0 = some (r1, r2)) :
    Calls Tryd.prog 82 #[.int .u8 a0] w fun e w' => e = .returned (.tuple #[.int .u8 r1, .int .u8 r2]) ∧ Below w.heap.size w w' := by
  have HG := Aside0.mk hG
  clear hG
  have HB := Aside0.mk (Below.refl w.heap.size w)
  have H : (if a0 = 224 then (some (160, 191)) else (if a0 = 237 then (some (128, 159)) else (if a0 = 240 then (some (144, 191)) else (if a0 = 244 then (some (128, 143)) else ((octet_Need.f a0).bind fun t162 => (if t162 > 1 then (some (128, 191)) else (some (1, 0)))))))) = some (r1, r2) := h
  clear h
  by_cases c2 : a0 = 224
  · rw [if_pos c2] at H
    have c2b0 : (a0 == 224) = true := beq_iff_eq.mpr c2
    have c2b1 : (a0 != 224) = false := bne_eq_false_iff_eq.mpr c2
    clear c2
    simp only [Option.some.injEq, Prod.mk.injEq] at H
    obtain ⟨rfl, rfl⟩ := H
    go_enter Tryd.func82, Tryd.ntmps82
    go_wp2
    go_ret2
    exact ⟨by first | rfl | (simp [errW_none, errW_some] <;> rfl) | (simp [*, errW_none, errW_some] <;> rfl), by repeat (first | (with_reducible first | exact HB.out | apply below_alloc | apply pw_below_drewN | apply below_drew1) | exact HB.out)⟩
  · rw [if_neg c2] at H
    have c2b0 : (a0 == 224) = false := beq_eq_false_iff_ne.mpr c2
    have c2b1 : (a0 != 224) = true := bne_iff_ne.mpr c2
    by_cases c3 : a0 = 237
    · rw [if_pos c3] at H
      have c3b0 : (a0 == 237) = true := beq_iff_eq.mpr c3
      have c3b1 : (a0 != 237) = false := bne_eq_false_iff_eq.mpr c3
      clear c3
      simp only [Option.some.injEq, Prod.mk.injEq] at H
      obtain ⟨rfl, rfl⟩ := H
      go_enter Tryd.func82, Tryd.ntmps82
      go_wp2
      go_ret2
      exact ⟨by first | rfl | (simp [errW_none, errW_some] <;> rfl) | (simp [*, errW_none, errW_some] <;> rfl), by repeat (first | (with_reducible first | exact HB.out | apply below_alloc | apply pw_below_drewN | apply below_drew1) | exact HB.out)⟩
    · rw [if_neg c3] at H
      have c3b0 : (a0 == 237) = false := beq_eq_false_iff_ne.mpr c3
      have c3b1 : (a0 != 237) = true := bne_iff_ne.mpr c3
      by_cases c4 : a0 = 240
      · rw [if_pos c4] at H
        have c4b0 : (a0 == 240) = true := beq_iff_eq.mpr c4
        have c4b1 : (a0 != 240) = false := bne_eq_false_iff_eq.mpr c4
        clear c4
        simp only [Option.some.injEq, Prod.mk.injEq] at H
        obtain ⟨rfl, rfl⟩ := H
        go_enter Tryd.func82, Tryd.ntmps82
        go_wp2
        go_ret2
        exact ⟨by first | rfl | (simp [errW_none, errW_some] <;> rfl) | (simp [*, errW_none, errW_some] <;> rfl), by repeat (first | (with_reducible first | exact HB.out | apply below_alloc | apply pw_below_drewN | apply below_drew1) | exact HB.out)⟩
      · rw [if_neg c4] at H
        have c4b0 : (a0 == 240) = false := beq_eq_false_iff_ne.mpr c4
        have c4b1 : (a0 != 240) = true := bne_iff_ne.mpr c4
        by_cases c5 : a0 = 244
        · rw [if_pos c5] at H
          have c5b0 : (a0 == 244) = true := beq_iff_eq.mpr c5
          have c5b1 : (a0 != 244) = false := bne_eq_false_iff_eq.mpr c5
          clear c5
          simp only [Option.some.injEq, Prod.mk.injEq] at H
          obtain ⟨rfl, rfl⟩ := H
          go_enter Tryd.func82, Tryd.ntmps82
          go_wp2
          go_ret2
          exact ⟨by first | rfl | (simp [errW_none, errW_some] <;> rfl) | (simp [*, errW_none, errW_some] <;> rfl), by repeat (first | (with_reducible first | exact HB.out | apply below_alloc | apply pw_below_drewN | apply below_drew1) | exact HB.out)⟩
        · rw [if_neg c5] at H
          have c5b0 : (a0 == 244) = false := beq_eq_false_iff_ne.mpr c5
          have c5b1 : (a0 != 244) = true := bne_iff_ne.mpr c5
          replace H := Option.bind_eq_some_iff.mp H
          obtain ⟨t162, A60, H⟩ := H
          replace H : (if t162 > 1 then (some (128, 191)) else (some (1, 0))) = some (r1, r2) := H
          have A6 := Aside0.mk A60
          clear A60
          by_cases c7 : t162 > 1
          · rw [if_pos c7] at H
            have c7b0 : decide (1 < t162) = true := decide_eq_true c7
            clear c7
            simp only [Option.some.injEq, Prod.mk.injEq] at H
            obtain ⟨rfl, rfl⟩ := H
            go_enter Tryd.func82, Tryd.ntmps82
            go_wp2_with (first | ((with_reducible refine gate_callee (f := 75) rfl ?_); refine goesL_ (some 14) rfl rfl Tryd.func75 (by kernel_rfl) rfl #[.int .u8 a0] rfl (by (try simp only [List.map_toArray, List.map_cons, List.map_nil]); first | done | rfl | (simp only [List.length_drop, List.length_take]; rfl)) ?_; (with_reducible refine (octet_Need.calls a0 t162 _ ?sideG A6.out).mono ?_); (case sideG => exact Glob.lift HG.out (by repeat (first | (with_reducible first | exact HB.out | apply below_alloc | apply pw_below_drewN | apply below_drew1) | exact HB.out))); rintro e w8 ⟨rfl, hb⟩; refine ⟨_, rfl, ?_⟩; have n0_ := Aside0.mk (below_step (by repeat (first | (with_reducible first | exact HB.out | apply below_alloc | apply pw_below_drewN | apply below_drew1) | exact HB.out)) hb); clear HB; have HB := n0_; clear n0_; (try clear hb); (try clear hb2); (try clear hk); (try clear hi)))
            go_ret2
            exact ⟨by first | rfl | (simp [errW_none, errW_some] <;> rfl) | (simp [*, errW_none, errW_some] <;> rfl), by repeat (first | (with_reducible first | exact HB.out | apply below_alloc | apply pw_below_drewN | apply below_drew1) | exact HB.out)⟩
          · rw [if_neg c7] at H
            have c7b0 : decide (1 < t162) = false := decide_eq_false c7
            clear c7
            simp only [Option.some.injEq, Prod.mk.injEq] at H
            obtain ⟨rfl, rfl⟩ := H
            go_enter Tryd.func82, Tryd.ntmps82
            go_wp2_with (first | ((with_reducible refine gate_callee (f := 75) rfl ?_); refine goesL_ (some 14) rfl rfl Tryd.func75 (by kernel_rfl) rfl #[.int .u8 a0] rfl (by (try simp only [List.map_toArray, List.map_cons, List.map_nil]); first | done | rfl | (simp only [List.length_drop, List.length_take]; rfl)) ?_; (with_reducible refine (octet_Need.calls a0 t162 _ ?sideG A6.out).mono ?_); (case sideG => exact Glob.lift HG.out (by repeat (first | (with_reducible first | exact HB.out | apply below_alloc | apply pw_below_drewN | apply below_drew1) | exact HB.out))); rintro e w9 ⟨rfl, hb⟩; refine ⟨_, rfl, ?_⟩; have n0_ := Aside0.mk (below_step (by repeat (first | (with_reducible first | exact HB.out | apply below_alloc | apply pw_below_drewN | apply below_drew1) | exact HB.out)) hb); clear HB; have HB := n0_; clear n0_; (try clear hb); (try clear hb2); (try clear hk); (try clear hi)))
            go_ret2
            exact ⟨by first | rfl | (simp [errW_none, errW_some] <;> rfl) | (simp [*, errW_none, errW_some] <;> rfl), by repeat (first | (with_reducible first | exact HB.out | apply below_alloc | apply pw_below_drewN | apply below_drew1) | exact HB.out)⟩

/-! ### octet_Second: function 77 -/
def octet_Second.f (a0 : Int) (a1 : Int) : Option (Bool) := (octet_second.f a0).bind fun bt163 => (if a1 ≥ bt163.1 then (some (decide (a1 ≤ bt163.2))) else (some false))
set_option maxHeartbeats 8000000 in
set_option maxRecDepth 100000 in
theorem octet_Second.calls (a0 : Int) (a1 : Int) (r : Bool) (w : World) (hG : Glob w) (h : octet_Second.f a0 a1 = some r) :
    Calls Tryd.prog 77 #[.int .u8 a0, .int .u8 a1] w fun e w' => e = .returned (.bool r) ∧ Below w.heap.size w w' := by
  have HG := Aside0.mk hG
  clear hG
  have HB := Aside0.mk (Below.refl w.heap.size w)
  have H : ((octet_second.f a0).bind fun bt163 => (if a1 ≥ bt163.1 then (some (decide (a1 ≤ bt163.2))) else (some false))) = some r := h
  clear h
  replace H := Option.bind_eq_some_iff.mp H
  obtain ⟨⟨t163, t164⟩, A30, H⟩ := H
  replace H : (if a1 ≥ t163 then (some (decide (a1 ≤ t164))) else (some false)) = some r := H
  have A3 := Aside0.mk A30
  clear A30
  by_cases c4 : a1 ≥ t163
  · rw [if_pos c4] at H
    have c4b0 : decide (t163 ≤ a1) = true := decide_eq_true c4
    clear c4
    obtain rfl := Option.some.inj H
    go_enter Tryd.func77, Tryd.ntmps77
    go_wp2_with (first | ((with_reducible refine gate_callee (f := 82) rfl ?_); refine goesL_ (some 9) rfl rfl Tryd.func82 (by kernel_rfl) rfl #[.int .u8 a0] rfl (by (try simp only [List.map_toArray, List.map_cons, List.map_nil]); first | done | rfl | (simp only [List.length_drop, List.length_take]; rfl)) ?_; (with_reducible refine (octet_second.calls a0 t163 t164 _ ?sideG A3.out).mono ?_); (case sideG => exact Glob.lift HG.out (by repeat (first | (with_reducible first | exact HB.out | apply below_alloc | apply pw_below_drewN | apply below_drew1) | exact HB.out))); rintro e w5 ⟨rfl, hb⟩; refine ⟨_, rfl, ?_⟩; have n0_ := Aside0.mk (below_step (by repeat (first | (with_reducible first | exact HB.out | apply below_alloc | apply pw_below_drewN | apply below_drew1) | exact HB.out)) hb); clear HB; have HB := n0_; clear n0_; (try clear hb); (try clear hb2); (try clear hk); (try clear hi)))
    go_ret
    exact ⟨by first | rfl | (simp [errW_none, errW_some] <;> rfl) | (simp [*, errW_none, errW_some] <;> rfl), by repeat (first | (with_reducible first | exact HB.out | apply below_alloc | apply pw_below_drewN | apply below_drew1) | exact HB.out)⟩
  · rw [if_neg c4] at H
    have c4b0 : decide (t163 ≤ a1) = false := decide_eq_false c4
    clear c4
    obtain rfl := Option.some.inj H
    go_enter Tryd.func77, Tryd.ntmps77
    go_wp2_with (first | ((with_reducible refine gate_callee (f := 82) rfl ?_); refine goesL_ (some 9) rfl rfl Tryd.func82 (by kernel_rfl) rfl #[.int .u8 a0] rfl (by (try simp only [List.map_toArray, List.map_cons, List.map_nil]); first | done | rfl | (simp only [List.length_drop, List.length_take]; rfl)) ?_; (with_reducible refine (octet_second.calls a0 t163 t164 _ ?sideG A3.out).mono ?_); (case sideG => exact Glob.lift HG.out (by repeat (first | (with_reducible first | exact HB.out | apply below_alloc | apply pw_below_drewN | apply below_drew1) | exact HB.out))); rintro e w6 ⟨rfl, hb⟩; refine ⟨_, rfl, ?_⟩; have n0_ := Aside0.mk (below_step (by repeat (first | (with_reducible first | exact HB.out | apply below_alloc | apply pw_below_drewN | apply below_drew1) | exact HB.out)) hb); clear HB; have HB := n0_; clear n0_; (try clear hb); (try clear hb2); (try clear hk); (try clear hi)))
    go_ret
    exact ⟨by first | rfl | (simp [errW_none, errW_some] <;> rfl) | (simp [*, errW_none, errW_some] <;> rfl), by repeat (first | (with_reducible first | exact HB.out | apply below_alloc | apply pw_below_drewN | apply below_drew1) | exact HB.out)⟩

/-! ### octet_Whole: function 71 -/
mutual
def octet_Whole.j0 : Nat → List Int → Bool → Option (Bool)
  | 0, _, _ => none
  | k + 1, x0, x16 => if x16 = true then (some false) else (if 1 ≤ (x0.length : Int) then (octet_Whole.l0 k x0 x0.tail (x0.tail.length : Int) 0) else (none))
def octet_Whole.l0 : Nat → List Int → List Int → Int → Int → Option (Bool)
  | 0, _, _, _, _ => none
  | k + 1, x0, x18, x19, x20 => if x20 < x19 then (if 0 ≤ x20 then (if x20 < (x18.length : Int) then ((octet_Class.f (rd x18 x20)).bind fun t169 => (if t169 = 2 then (if x20 = 0 then (if 0 < (x0.length : Int) then ((octet_Second.f (rd x0 0) (rd x18 x20)).bind fun t171 => (if t171 = true then (octet_Whole.l0 k x0 x18 x19 (wrap64 (x20 + 1))) else (some false))) else (none)) else (octet_Whole.l0 k x0 x18 x19 (wrap64 (x20 + 1)))) else (some false))) else (none)) else (none)) else (some true)
end
def octet_Whole.f (k : Nat) (l0 : List Int) : Option (Bool) := if (l0.length : Int) = 0 then (octet_Whole.j0 k l0 true) else (if 0 < (l0.length : Int) then ((octet_Need.f (rd l0 0)).bind fun t166 => (octet_Whole.j0 k l0 (t166 != (l0.length : Int)))) else (none))
theorem octet_Whole.mono_l : ∀ k, (∀ y0 y1, LeO (octet_Whole.j0 k y0 y1) (octet_Whole.j0 (k + 1) y0 y1)) ∧ (∀ y0 y1 y2 y3, LeO (octet_Whole.l0 k y0 y1 y2 y3) (octet_Whole.l0 (k + 1) y0 y1 y2 y3))
  | 0 => ⟨fun _ _ r h => by simp [octet_Whole.j0] at h, fun _ _ _ _ r h => by simp [octet_Whole.l0] at h⟩
  | k + 1 => by
    obtain ⟨ih0, ih1⟩ := octet_Whole.mono_l k
    refine ⟨?_, ?_⟩
    · intro y0 y1
      unfold octet_Whole.j0
      repeat' first
      | (with_reducible exact ih0 _ _)
      | (with_reducible exact ih1 _ _ _ _)
      | (with_reducible exact LeO.refl _)
      | (with_reducible exact LeO.none _)
      | (with_reducible refine LeO.ite ?_ ?_)
      | (with_reducible refine LeO.bind ?_ (fun _ => ?_))
      | exact ih0 _ _
      | exact ih1 _ _ _ _
      | exact LeO.none _
      | refine LeO.ite ?_ ?_
      | refine LeO.bind ?_ (fun _ => ?_)
    · intro y0 y1 y2 y3
      unfold octet_Whole.l0
      repeat' first
      | (with_reducible exact ih0 _ _)
      | (with_reducible exact ih1 _ _ _ _)
      | (with_reducible exact LeO.refl _)
      | (with_reducible exact LeO.none _)
      | (with_reducible refine LeO.ite ?_ ?_)
      | (with_reducible refine LeO.bind ?_ (fun _ => ?_))
      | exact ih0 _ _
      | exact ih1 _ _ _ _
      | exact LeO.none _
      | refine LeO.ite ?_ ?_
      | refine LeO.bind ?_ (fun _ => ?_)
theorem octet_Whole.mono : ∀ a0 k, LeO (octet_Whole.f k a0) (octet_Whole.f (k + 1) a0) := by
  intro a0 k
  obtain ⟨ih0, ih1⟩ := octet_Whole.mono_l k
  unfold octet_Whole.f
  repeat' first
      | (with_reducible exact ih0 _ _)
      | (with_reducible exact ih1 _ _ _ _)
      | (with_reducible exact LeO.refl _)
      | (with_reducible exact LeO.none _)
      | (with_reducible refine LeO.ite ?_ ?_)
      | (with_reducible refine LeO.bind ?_ (fun _ => ?_))
      | exact ih0 _ _
      | exact ih1 _ _ _ _
      | exact LeO.none _
      | refine LeO.ite ?_ ?_
      | refine LeO.bind ?_ (fun _ => ?_)
set_option maxHeartbeats 8000000 in
set_option maxRecDepth 100000 in
theorem octet_Whole.calls (k : Nat) (A0 : Option Addr) (c0 : Nat) (l0 : List Int) (r : Bool) (w : World) (hr0 : Kd.C (Kd.int .u8) w A0 l0.length l0) (hc0 : l0.length ≤ c0) (hG : Glob w) (h : octet_Whole.f k l0 = some r) :
    Calls Tryd.prog 71 #[.slice A0 l0.length c0] w fun e w' => e = .returned (.bool r) ∧ Below w.heap.size w w' := by
  have HG := Aside0.mk hG
  clear hG
  have HR0 := Aside0.mk hr0
  have HC0 := Aside0.mk hc0
  clear hr0 hc0
  have HB := Aside0.mk (Below.refl w.heap.size w)
  have H : (if (l0.length : Int) = 0 then (octet_Whole.j0 k l0 true) else (if 0 < (l0.length : Int) then ((octet_Need.f (rd l0 0)).bind fun t166 => (octet_Whole.j0 k l0 (t166 != (l0.length : Int)))) else (none))) = some r := h
  clear h
  have HC2 := Aside0.mk H
  clear H
  go_enter Tryd.func71, Tryd.ntmps71
  go_upto_region 1 with (fail)
  go_cut [16] (fun v16 wc => ∃ (kq : Nat) (x16_1 : Bool), v16 = .bool x16_1 ∧ Aside0 (octet_Whole.j0 kq l0 x16_1 = some r) ∧ Aside0 (kq ≤ k) ∧ Aside0 (Below w.heap.size w wc))
  case first =>
    have H := HC2.out
    clear HC2
    by_cases c3 : (l0.length : Int) = 0
    · rw [if_pos c3] at H
      have c3b0 : ((l0.length : Int) == 0) = true := beq_iff_eq.mpr c3
      have c3b1 : ((l0.length : Int) != 0) = false := bne_eq_false_iff_eq.mpr c3
      clear c3
      (first | rw [c3b0] | (simp only [i64_w, i32_w]; rw [c3b0]) | skip)
      have H' := Aside0.mk H
      clear H
      go_wp2
      go_meet
      case rel => exact ⟨_, (true), (by first | rfl | (simp; done) | (simp [*]; done)), H', ⟨by first | omega | exact Nat.le_refl _⟩, ⟨by repeat (first | (with_reducible first | exact HB.out | apply below_alloc | apply pw_below_drewN | apply below_drew1) | exact HB.out)⟩⟩
    · rw [if_neg c3] at H
      have c3b0 : ((l0.length : Int) == 0) = false := beq_eq_false_iff_ne.mpr c3
      have c3b1 : ((l0.length : Int) != 0) = true := bne_iff_ne.mpr c3
      have c3b2 : ¬ (l0 = []) := fun h_ => c3 (by rw [h_]; rfl)
      (first | rw [c3b0] | (simp only [i64_w, i32_w]; rw [c3b0]) | skip)
      by_cases c4 : 0 < (l0.length : Int)
      · rw [if_pos c4] at H
        have c4b0 : decide (0 < (l0.length : Int)) = true := decide_eq_true c4
        have c4b1 : decide (0 < l0.length) = true := decide_eq_true (by omega)
        clear c4
        replace H := Option.bind_eq_some_iff.mp H
        obtain ⟨t166, A50, H⟩ := H
        replace H : (octet_Whole.j0 k l0 (t166 != (l0.length : Int))) = some r := H
        have A5 := Aside0.mk A50
        clear A50
        have H' := Aside0.mk H
        clear H
        have p165 : 0 ≤ (0 : Int) := (by omega)
        have q165 : 0 < (l0.length : Int) := of_decide_eq_true (by first | (with_reducible assumption) | assumption)
        obtain ⟨ad165, e165, hx165_0⟩ := Kd.at_int HR0.out 0 p165 q165
        cases e165
        have qi165 : (0 < l0.length) = True := eq_true (by omega)
        (try rw [show ((0 : Int)).toNat = 0 from rfl] at hx165_0)
        (try rw [Addr.add_zero'] at hx165_0)
        replace hx165_0 := (HB.out.cell (World.block_lt_of_cell? w _ hx165_0)).trans hx165_0
        replace p165 := eq_true p165
        replace q165 := eq_true q165
        go_wp2_with (first | (go_at_call 75; (with_reducible refine (octet_Need.calls (rd l0 0) t166 _ ?sideG A5.out).mono ?_); (case sideG => exact Glob.lift HG.out (by repeat (first | (with_reducible first | exact HB.out | apply below_alloc | apply pw_below_drewN | apply below_drew1) | exact HB.out))); rintro e w6 ⟨rfl, hb⟩; have n0_ := Aside0.mk (below_step (by repeat (first | (with_reducible first | exact HB.out | apply below_alloc | apply pw_below_drewN | apply below_drew1) | exact HB.out)) hb); clear HB; have HB := n0_; clear n0_; (try clear hb); (try clear hb2); (try clear hk); (try clear hi)))
        go_meet
        case rel => exact ⟨_, ((t166 != (l0.length : Int))), (by first | rfl | (simp; done) | (simp [*]; done)), H', ⟨by first | omega | exact Nat.le_refl _⟩, ⟨by repeat (first | (with_reducible first | exact HB.out | apply below_alloc | apply pw_below_drewN | apply below_drew1) | exact HB.out)⟩⟩
      · rw [if_neg c4] at H
        exact absurd H (by simp)
  case rest =>
    clear HC2
    try clear p1
    try clear q1
    try clear hx1
    try clear qi1
    try clear p2
    try clear c3
    try clear c3b0
    try clear c3b1
    try clear c3b2
    try clear c4
    try clear c4b0
    try clear c4b1
    try clear hx165_0
    try clear p165
    try clear q165
    obtain ⟨kq, x16_1, rfl, HA, HJ1, HB⟩ := hcut
    cases kq with
    | zero => exact absurd HA.out (by simp [octet_Whole.j0])
    | succ kj1 =>
      have H := HA.out
      clear HA
      simp only [octet_Whole.j0] at H
      by_cases c7 : x16_1 = true
      · subst c7
        have H1 : (some false) = some r := by rw [if_pos rfl] at H; exact H
        clear H
        have H := H1
        clear H1
        obtain rfl := Option.some.inj H
        go_wp2
        go_ret
        exact ⟨by first | rfl | (simp [errW_none, errW_some] <;> rfl) | (simp [*, errW_none, errW_some] <;> rfl), by repeat (first | (with_reducible first | exact HB.out | apply below_alloc | apply pw_below_drewN | apply below_drew1) | exact HB.out)⟩
      · replace c7 := Bool.eq_false_iff.mpr c7
        subst c7
        have H1 : (if 1 ≤ (l0.length : Int) then (octet_Whole.l0 kj1 l0 l0.tail (l0.tail.length : Int) 0) else (none)) = some r := by rw [if_neg (show ¬ (false = true) by decide)] at H; exact H
        clear H
        have H := H1
        clear H1
        by_cases c8 : 1 ≤ (l0.length : Int)
        · rw [if_pos c8] at H
          have c8b0 := eq_true c8
          have c8b1 : decide (1 ≤ (l0.length : Int)) = true := decide_eq_true c8
          clear c8
          have H' := Aside0.mk H
          clear H
          obtain ⟨i09, hi09, _, hsz9, _⟩ := info_parts info5
          obtain ⟨A9, hcut9, hA9, hC9⟩ := print_drop_of (P := Tryd.prog) (Value.int .u8) 0 30 5 .i64 Tryd.underlying30 hi09 hsz9 A0 c0 l0 1 (by omega) (of_decide_eq_true (by first | (with_reducible assumption) | assumption)) HC0.out
          have HR167 := Aside0.mk (by have z_ := Kd.C_of_reads (h1 := fun _ => rfl) (hA9 _ (Kd.reads_of_C HR0.out)); rw [show Int.toNat 1 = 1 from rfl, List.drop_one] at z_; exact z_)
          have HC167 := Aside0.mk hC9
          clear hA9 hC9 hi09 hsz9
          go_wp2
          go_loopg [20] kj1 (fun kq v20 w' => ∃ (x20_2 : Int), v20 = .int .i64 x20_2 ∧ Aside0 (octet_Whole.l0 kq l0 l0.tail (l0.tail.length : Int) x20_2 = some r) ∧ Aside0 (kq ≤ kj1) ∧ Aside0 (Below w.heap.size w w'))
          case atStart => exact ⟨(0), (by first | rfl | (simp; done) | (simp [*]; done)), H', ⟨Nat.le_refl _⟩, ⟨by repeat (first | (with_reducible first | exact HB.out | apply below_alloc | apply pw_below_drewN | apply below_drew1) | exact HB.out)⟩⟩
          case round =>
            clear H'
            try clear p1
            try clear q1
            try clear hx1
            try clear qi1
            try clear p2
            try clear c3
            try clear c3b0
            try clear c3b1
            try clear c3b2
            try clear c4
            try clear c4b0
            try clear c4b1
            try clear c7
            try clear c8
            try clear c8b0
            try clear c8b1
            try clear hx165_0
            try clear p1
            try clear p165
            try clear p2
            try clear q1
            try clear q165
            obtain ⟨x20_2, rfl, HA, HK2, HB⟩ := hrel
            cases gk with
            | zero => exact absurd HA.out (by simp [octet_Whole.l0])
            | succ k2 =>
              have H := HA.out
              clear HA
              simp only [octet_Whole.l0] at H
              by_cases c10 : x20_2 < (l0.tail.length : Int)
              · rw [if_pos c10] at H
                have c10b0 : decide (x20_2 < (l0.tail.length : Int)) = true := decide_eq_true c10
                simp only [List.length_tail] at c10b0
                clear c10
                by_cases c11 : 0 ≤ x20_2
                · rw [if_pos c11] at H
                  have c11b0 : decide (0 ≤ x20_2) = true := decide_eq_true c11
                  clear c11
                  by_cases c12 : x20_2 < (l0.tail.length : Int)
                  · rw [if_pos c12] at H
                    have c12b0 : decide (x20_2 < (l0.tail.length : Int)) = true := decide_eq_true c12
                    clear c12
                    replace H := Option.bind_eq_some_iff.mp H
                    obtain ⟨t169, A130, H⟩ := H
                    replace H : (if t169 = 2 then (if x20_2 = 0 then (if 0 < (l0.length : Int) then ((octet_Second.f (rd l0 0) (rd l0.tail x20_2)).bind fun t171 => (if t171 = true then (octet_Whole.l0 k2 l0 l0.tail (l0.tail.length : Int) (wrap64 (x20_2 + 1))) else (some false))) else (none)) else (octet_Whole.l0 k2 l0 l0.tail (l0.tail.length : Int) (wrap64 (x20_2 + 1)))) else (some false)) = some r := H
                    have A13 := Aside0.mk A130
                    clear A130
                    by_cases c14 : t169 = 2
                    · rw [if_pos c14] at H
                      have c14b0 : (t169 == 2) = true := beq_iff_eq.mpr c14
                      have c14b1 : (t169 != 2) = false := bne_eq_false_iff_eq.mpr c14
                      clear c14
                      by_cases c15 : x20_2 = 0
                      · rw [if_pos c15] at H
                        have c15b0 : (x20_2 == 0) = true := beq_iff_eq.mpr c15
                        have c15b1 : (x20_2 != 0) = false := bne_eq_false_iff_eq.mpr c15
                        clear c15
                        by_cases c16 : 0 < (l0.length : Int)
                        · rw [if_pos c16] at H
                          have c16b0 : decide (0 < (l0.length : Int)) = true := decide_eq_true c16
                          have c16b1 : decide (0 < l0.length) = true := decide_eq_true (by omega)
                          clear c16
                          replace H := Option.bind_eq_some_iff.mp H
                          obtain ⟨t171, A170, H⟩ := H
                          replace H : (if t171 = true then (octet_Whole.l0 k2 l0 l0.tail (l0.tail.length : Int) (wrap64 (x20_2 + 1))) else (some false)) = some r := H
                          have A17 := Aside0.mk A170
                          clear A170
                          by_cases c18 : t171 = true
                          · subst c18
                            have H1 : (octet_Whole.l0 k2 l0 l0.tail (l0.tail.length : Int) (wrap64 (x20_2 + 1))) = some r := by rw [if_pos rfl] at H; exact H
                            clear H
                            have H := H1
                            clear H1
                            have H' := Aside0.mk H
                            clear H
                            have p168 : 0 ≤ (x20_2 : Int) := of_decide_eq_true (by first | (with_reducible assumption) | assumption)
                            have q168 : x20_2 < (l0.tail.length : Int) := of_decide_eq_true (by first | (with_reducible assumption) | assumption)
                            obtain ⟨ad168, e168, hx168_0⟩ := Kd.at_int HR167.out x20_2 p168 q168
                            cases e168
                            replace hx168_0 := (HB.out.cell (World.block_lt_of_cell? w _ hx168_0)).trans hx168_0
                            replace p168 := eq_true p168
                            simp only [List.length_tail] at q168
                            replace q168 := eq_true q168
                            go_wp2_with (first | ((with_reducible refine gate_callee (f := 76) rfl ?_); refine goesL_ (some 26) rfl rfl Tryd.func76 (by kernel_rfl) rfl #[.int .u8 (rd l0.tail x20_2)] rfl (by (try simp only [List.map_toArray, List.map_cons, List.map_nil]); first | done | rfl | (simp only [List.length_drop, List.length_take]; rfl)) ?_; (with_reducible refine (octet_Class.calls (rd l0.tail x20_2) t169 _ ?sideG A13.out).mono ?_); (case sideG => exact Glob.lift HG.out (by repeat (first | (with_reducible first | exact HB.out | apply below_alloc | apply pw_below_drewN | apply below_drew1) | exact HB.out))); rintro e w19 ⟨rfl, hb⟩; refine ⟨_, rfl, ?_⟩; have n0_ := Aside0.mk (below_step (by repeat (first | (with_reducible first | exact HB.out | apply below_alloc | apply pw_below_drewN | apply below_drew1) | exact HB.out)) hb); clear HB; have HB := n0_; clear n0_; (try clear hb); (try clear hb2); (try clear hk); (try clear hi); have p170 : 0 ≤ (0 : Int) := (by omega); have q170 : 0 < (l0.length : Int) := of_decide_eq_true (by first | (with_reducible assumption) | assumption); obtain ⟨ad170, e170, hx170_0⟩ := Kd.at_int HR0.out 0 p170 q170; cases e170; have qi170 : (0 < l0.length) = True := eq_true (by omega); (try rw [show ((0 : Int)).toNat = 0 from rfl] at hx170_0); (try rw [Addr.add_zero'] at hx170_0); replace hx170_0 := (HB.out.cell (World.block_lt_of_cell? w _ hx170_0)).trans hx170_0; replace p170 := eq_true p170; replace q170 := eq_true q170) | (go_at_call 77; (with_reducible refine (octet_Second.calls (rd l0 0) (rd l0.tail x20_2) true _ ?sideG A17.out).mono ?_); (case sideG => exact Glob.lift HG.out (by repeat (first | (with_reducible first | exact HB.out | apply below_alloc | apply pw_below_drewN | apply below_drew1) | exact HB.out))); rintro e w20 ⟨rfl, hb⟩; have n0_ := Aside0.mk (below_step (by repeat (first | (with_reducible first | exact HB.out | apply below_alloc | apply pw_below_drewN | apply below_drew1) | exact HB.out)) hb); clear HB; have HB := n0_; clear n0_; (try clear hb); (try clear hb2); (try clear hk); (try clear hi)))
                            go_roundg k2
                            case measure => have := HJ1.out; have := HK2.out; omega
                            case rel => exact ⟨(wrap64 (x20_2 + 1)), (by first | rfl | (simp; done) | (simp [*]; done)), H', ⟨by have := HJ1.out; have := HK2.out; omega⟩, ⟨by repeat (first | (with_reducible first | exact HB.out | apply below_alloc | apply pw_below_drewN | apply below_drew1) | exact HB.out)⟩⟩
                          · replace c18 := Bool.eq_false_iff.mpr c18
                            subst c18
                            have H1 : (some false) = some r := by rw [if_neg (show ¬ (false = true) by decide)] at H; exact H
                            clear H
                            have H := H1
                            clear H1
                            obtain rfl := Option.some.inj H
                            have p168 : 0 ≤ (x20_2 : Int) := of_decide_eq_true (by first | (with_reducible assumption) | assumption)
                            have q168 : x20_2 < (l0.tail.length : Int) := of_decide_eq_true (by first | (with_reducible assumption) | assumption)
                            obtain ⟨ad168, e168, hx168_0⟩ := Kd.at_int HR167.out x20_2 p168 q168
                            cases e168
                            replace hx168_0 := (HB.out.cell (World.block_lt_of_cell? w _ hx168_0)).trans hx168_0
                            replace p168 := eq_true p168
                            simp only [List.length_tail] at q168
                            replace q168 := eq_true q168
                            go_wp2_with (first | ((with_reducible refine gate_callee (f := 76) rfl ?_); refine goesL_ (some 26) rfl rfl Tryd.func76 (by kernel_rfl) rfl #[.int .u8 (rd l0.tail x20_2)] rfl (by (try simp only [List.map_toArray, List.map_cons, List.map_nil]); first | done | rfl | (simp only [List.length_drop, List.length_take]; rfl)) ?_; (with_reducible refine (octet_Class.calls (rd l0.tail x20_2) t169 _ ?sideG A13.out).mono ?_); (case sideG => exact Glob.lift HG.out (by repeat (first | (with_reducible first | exact HB.out | apply below_alloc | apply pw_below_drewN | apply below_drew1) | exact HB.out))); rintro e w21 ⟨rfl, hb⟩; refine ⟨_, rfl, ?_⟩; have n0_ := Aside0.mk (below_step (by repeat (first | (with_reducible first | exact HB.out | apply below_alloc | apply pw_below_drewN | apply below_drew1) | exact HB.out)) hb); clear HB; have HB := n0_; clear n0_; (try clear hb); (try clear hb2); (try clear hk); (try clear hi); have p170 : 0 ≤ (0 : Int) := (by omega); have q170 : 0 < (l0.length : Int) := of_decide_eq_true (by first | (with_reducible assumption) | assumption); obtain ⟨ad170, e170, hx170_0⟩ := Kd.at_int HR0.out 0 p170 q170; cases e170; have qi170 : (0 < l0.length) = True := eq_true (by omega); (try rw [show ((0 : Int)).toNat = 0 from rfl] at hx170_0); (try rw [Addr.add_zero'] at hx170_0); replace hx170_0 := (HB.out.cell (World.block_lt_of_cell? w _ hx170_0)).trans hx170_0; replace p170 := eq_true p170; replace q170 := eq_true q170) | (go_at_call 77; (with_reducible refine (octet_Second.calls (rd l0 0) (rd l0.tail x20_2) false _ ?sideG A17.out).mono ?_); (case sideG => exact Glob.lift HG.out (by repeat (first | (with_reducible first | exact HB.out | apply below_alloc | apply pw_below_drewN | apply below_drew1) | exact HB.out))); rintro e w22 ⟨rfl, hb⟩; have n0_ := Aside0.mk (below_step (by repeat (first | (with_reducible first | exact HB.out | apply below_alloc | apply pw_below_drewN | apply below_drew1) | exact HB.out)) hb); clear HB; have HB := n0_; clear n0_; (try clear hb); (try clear hb2); (try clear hk); (try clear hi)))
                            go_ret
                            exact ⟨by first | rfl | (simp [errW_none, errW_some] <;> rfl) | (simp [*, errW_none, errW_some] <;> rfl), by repeat (first | (with_reducible first | exact HB.out | apply below_alloc | apply pw_below_drewN | apply below_drew1) | exact HB.out)⟩
                        · rw [if_neg c16] at H
                          exact absurd H (by simp)
                      · rw [if_neg c15] at H
                        have c15b0 : (x20_2 == 0) = false := beq_eq_false_iff_ne.mpr c15
                        have c15b1 : (x20_2 != 0) = true := bne_iff_ne.mpr c15
                        have H' := Aside0.mk H
                        clear H
                        have p168 : 0 ≤ (x20_2 : Int) := of_decide_eq_true (by first | (with_reducible assumption) | assumption)
                        have q168 : x20_2 < (l0.tail.length : Int) := of_decide_eq_true (by first | (with_reducible assumption) | assumption)
                        obtain ⟨ad168, e168, hx168_0⟩ := Kd.at_int HR167.out x20_2 p168 q168
                        cases e168
                        replace hx168_0 := (HB.out.cell (World.block_lt_of_cell? w _ hx168_0)).trans hx168_0
                        replace p168 := eq_true p168
                        simp only [List.length_tail] at q168
                        replace q168 := eq_true q168
                        go_wp2_with (first | ((with_reducible refine gate_callee (f := 76) rfl ?_); refine goesL_ (some 26) rfl rfl Tryd.func76 (by kernel_rfl) rfl #[.int .u8 (rd l0.tail x20_2)] rfl (by (try simp only [List.map_toArray, List.map_cons, List.map_nil]); first | done | rfl | (simp only [List.length_drop, List.length_take]; rfl)) ?_; (with_reducible refine (octet_Class.calls (rd l0.tail x20_2) t169 _ ?sideG A13.out).mono ?_); (case sideG => exact Glob.lift HG.out (by repeat (first | (with_reducible first | exact HB.out | apply below_alloc | apply pw_below_drewN | apply below_drew1) | exact HB.out))); rintro e w23 ⟨rfl, hb⟩; refine ⟨_, rfl, ?_⟩; have n0_ := Aside0.mk (below_step (by repeat (first | (with_reducible first | exact HB.out | apply below_alloc | apply pw_below_drewN | apply below_drew1) | exact HB.out)) hb); clear HB; have HB := n0_; clear n0_; (try clear hb); (try clear hb2); (try clear hk); (try clear hi)))
                        go_roundg k2
                        case measure => have := HJ1.out; have := HK2.out; omega
                        case rel => exact ⟨(wrap64 (x20_2 + 1)), (by first | rfl | (simp; done) | (simp [*]; done)), H', ⟨by have := HJ1.out; have := HK2.out; omega⟩, ⟨by repeat (first | (with_reducible first | exact HB.out | apply below_alloc | apply pw_below_drewN | apply below_drew1) | exact HB.out)⟩⟩
                    · rw [if_neg c14] at H
                      have c14b0 : (t169 == 2) = false := beq_eq_false_iff_ne.mpr c14
                      have c14b1 : (t169 != 2) = true := bne_iff_ne.mpr c14
                      obtain rfl := Option.some.inj H
                      have p168 : 0 ≤ (x20_2 : Int) := of_decide_eq_true (by first | (with_reducible assumption) | assumption)
                      have q168 : x20_2 < (l0.tail.length : Int) := of_decide_eq_true (by first | (with_reducible assumption) | assumption)
                      obtain ⟨ad168, e168, hx168_0⟩ := Kd.at_int HR167.out x20_2 p168 q168
                      cases e168
                      replace hx168_0 := (HB.out.cell (World.block_lt_of_cell? w _ hx168_0)).trans hx168_0
                      replace p168 := eq_true p168
                      simp only [List.length_tail] at q168
                      replace q168 := eq_true q168
                      go_wp2_with (first | ((with_reducible refine gate_callee (f := 76) rfl ?_); refine goesL_ (some 26) rfl rfl Tryd.func76 (by kernel_rfl) rfl #[.int .u8 (rd l0.tail x20_2)] rfl (by (try simp only [List.map_toArray, List.map_cons, List.map_nil]); first | done | rfl | (simp only [List.length_drop, List.length_take]; rfl)) ?_; (with_reducible refine (octet_Class.calls (rd l0.tail x20_2) t169 _ ?sideG A13.out).mono ?_); (case sideG => exact Glob.lift HG.out (by repeat (first | (with_reducible first | exact HB.out | apply below_alloc | apply pw_below_drewN | apply below_drew1) | exact HB.out))); rintro e w24 ⟨rfl, hb⟩; refine ⟨_, rfl, ?_⟩; have n0_ := Aside0.mk (below_step (by repeat (first | (with_reducible first | exact HB.out | apply below_alloc | apply pw_below_drewN | apply below_drew1) | exact HB.out)) hb); clear HB; have HB := n0_; clear n0_; (try clear hb); (try clear hb2); (try clear hk); (try clear hi)))
                      go_ret
                      exact ⟨by first | rfl | (simp [errW_none, errW_some] <;> rfl) | (simp [*, errW_none, errW_some] <;> rfl), by repeat (first | (with_reducible first | exact HB.out | apply below_alloc | apply pw_below_drewN | apply below_drew1) | exact HB.out)⟩
                  · rw [if_neg c12] at H
                    exact absurd H (by simp)
                · rw [if_neg c11] at H
                  exact absurd H (by simp)
              · rw [if_neg c10] at H
                have c10b0 : decide (x20_2 < (l0.tail.length : Int)) = false := decide_eq_false c10
                simp only [List.length_tail] at c10b0
                clear c10
                obtain rfl := Option.some.inj H
                go_wp2
                go_ret
                exact ⟨by first | rfl | (simp [errW_none, errW_some] <;> rfl) | (simp [*, errW_none, errW_some] <;> rfl), by repeat (first | (with_reducible first | exact HB.out | apply below_alloc | apply pw_below_drewN | apply below_drew1) | exact HB.out)⟩
        · rw [if_neg c8] at H
          exact absurd H (by simp)
end Go.Proofs.YtcdehlnkilcgaaaDoor.Q
