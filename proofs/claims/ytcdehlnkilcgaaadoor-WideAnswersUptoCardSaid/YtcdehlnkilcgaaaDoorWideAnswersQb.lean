/- Contracts of the Go functions galley/units.To, galley/units.ToExact: each call answers what the Lean function of its name answers. (Most lines were written by the kit's print program and then turned for this seat.) -/
import Derived.Test.YtcdehlnkilcgaaaDoorWideAnswersQ0
import Derived.Test.YtcdehlnkilcgaaaDoorWideAnswersQa
import Derived.Test.YtcdehlnkilcgaaaDoorWideAnswersQm
import Derived.Laws.RangeString
import Derived.Laws.RangeAny
import Derived.Lib.OthersKept
import Derived.Laws.IdiomStrings
import Derived.Laws.Cover4
namespace Go.Proofs.YtcdehlnkilcgaaaDoor.Q
open Go.RowKit Go.Proofs.YtcdehlnkilcgaaaDoorW.PrintWords Go.Proofs.YtcdehlnkilcgaaaDoorW.PrintLast Go.Proofs.YtcdehlnkilcgaaaDoorW.PrintMore
attribute [local go_sem] max2_int min2_int max_two min_two max_three min_three max_four min_four
set_option linter.unusedVariables false
set_option linter.unusedSimpArgs false
def units_To.l0 : Nat → List Int → List Int → Int → Int → Option (List Int)
  | 0, _, _, _, _ => none
  | k + 1, x3, x11, x12, x13 => if x13 < x12 then (if 0 ≤ x13 then (if x13 < (x11.length : Int) then ((units_Split.f k (rd x11 x13)).bind fun bt109 => (if bt109.2.2 = true then ((some (([bt109.1, bt109.2.1] : List Int) : List Int)).bind fun y112 => (if x3.length + y112.length < 70368744177664 then (units_To.l0 k (x3 ++ y112) x11 x12 (wrap64 (x13 + 1))) else (none))) else (if x3.length < 70368744177664 then (units_To.l0 k (x3 ++ [IntKind.u16.wrap (rd x11 x13)]) x11 x12 (wrap64 (x13 + 1))) else (none)))) else (none)) else (none)) else (some x3)
def units_To.f (k : Nat) (l0 : List Int) : Option (List Int) := (step_Runes.f l0).bind fun t105 => (units_To.l0 k ([] : List Int) t105 (t105.length : Int) 0)
theorem units_To.mono_l : ∀ k, (∀ y0 y1 y2 y3, LeO (units_To.l0 k y0 y1 y2 y3) (units_To.l0 (k + 1) y0 y1 y2 y3))
  | 0 => fun _ _ _ _ r h => by simp [units_To.l0] at h
  | k + 1 => by
    have ih0 := units_To.mono_l k
    · intro y0 y1 y2 y3; unfold units_To.l0
      repeat' first
      | (with_reducible exact ih0 _ _ _ _)
      | (with_reducible exact units_Split.mono _ _)
      | (with_reducible exact LeO.refl _)
      | (with_reducible exact LeO.none _)
      | (with_reducible refine LeO.ite ?_ ?_)
      | (with_reducible refine LeO.bind ?_ (fun _ => ?_))
      | exact ih0 _ _ _ _
      | exact units_Split.mono _ _
      | exact LeO.none _
      | refine LeO.ite ?_ ?_
      | refine LeO.bind ?_ (fun _ => ?_)
theorem units_To.mono : ∀ a0 k, LeO (units_To.f k a0) (units_To.f (k + 1) a0) := by
  intro a0 k; have ih0 := units_To.mono_l k; unfold units_To.f
  repeat' first
      | (with_reducible exact ih0 _ _ _ _)
      | (with_reducible exact units_Split.mono _ _)
      | (with_reducible exact LeO.refl _)
      | (with_reducible exact LeO.none _)
      | (with_reducible refine LeO.ite ?_ ?_)
      | (with_reducible refine LeO.bind ?_ (fun _ => ?_))
      | exact ih0 _ _ _ _
      | exact units_Split.mono _ _
      | exact LeO.none _
      | refine LeO.ite ?_ ?_
      | refine LeO.bind ?_ (fun _ => ?_)
set_option maxHeartbeats 8000000 in
set_option maxRecDepth 100000 in
theorem units_To.calls (k : Nat) (A0 : Option Addr) (c0 : Nat) (l0 : List Int) (r : List Int) (w : World) (hr0 : Kd.C (Kd.int .u8) w A0 l0.length l0) (hc0 : l0.length ≤ c0) (h : units_To.f k l0 = some r) :
    Calls Tryd.prog 23 #[.slice A0 l0.length c0] w fun e w' => ∃ v0_ : Value, e = .returned (v0_) ∧ Kd.R (Kd.int .u16) 22 w' w.heap.size (fun _ => True) v0_ r ∧ Below w.heap.size w w' := by
  have HR0 := Aside0.mk hr0; have HC0 := Aside0.mk hc0; clear hr0 hc0; have HB := Aside0.mk (Below.refl w.heap.size w); have H : ((step_Runes.f l0).bind fun t105 => (units_To.l0 k ([] : List Int) t105 (t105.length : Int) 0)) = some r := h; clear h; replace H := Option.bind_eq_some_iff.mp H; obtain ⟨t105, A20, H⟩ := H; replace H : (units_To.l0 k ([] : List Int) t105 (t105.length : Int) 0) = some r := H; have A2 := Aside0.mk A20; clear A20; have H' := Aside0.mk H; clear H
  have hb_ : l0.length ≤ 1099511627776 := by
    by_cases hb_ : l0.length ≤ 1099511627776; · exact hb_
    · have z_ := A2.out; unfold step_Runes.f at z_; rw [if_neg hb_] at z_; cases z_
  have ht_ : t105 = runesAt (strOfNums l0) (strOfNums l0).size 0 := by
    have z_ := A2.out; unfold step_Runes.f at z_; rw [if_pos hb_] at z_; rw [strOfNums_size]; exact (Option.some.inj z_).symm
  have hcv1 := Kd.C_string (P := Tryd.prog) (A := A0) (c := c0) Tryd.underlying30 Tryd.underlying5 Tryd.underlying9 HR0.out; obtain ⟨v106, w3, hcv2, hR_, hB_⟩ := runes_made (P := Tryd.prog) w 9 67 21 (strOfNums l0) Tryd.underlying9 Tryd.underlying67 Tryd.underlying21 (by rw [strOfNums_size]; exact hb_); rw [← ht_] at hR_; obtain ⟨Ao4, co4, eo4⟩ := Kd.R_slice hR_; subst eo4; have HO107 := Aside0.mk hR_; clear HB; have HB := Aside0.mk hB_; clear hR_ hB_ ht_ hb_ A2; (go_enter Tryd.func23, Tryd.ntmps23); (go_wp2); (go_loopg [3, 13] k (fun kq v3 v13 w' => ∃ (x3_1 : List Int) (x13_1 : Int), v13 = .int .i64 x13_1 ∧ Aside0 (units_To.l0 kq x3_1 t105 (t105.length : Int) x13_1 = some r) ∧ Aside0 (kq ≤ k) ∧ Aside0 (Kd.R (Kd.int .u16) 22 w' w.heap.size (fun _ => True) v3 x3_1) ∧ Aside0 (Kd.R (Kd.int .i32) 21 w' w.heap.size (fun _ => True) (.slice Ao4 t105.length co4) t105) ∧ Aside0 (Below w.heap.size w w'))); case atStart => exact ⟨(([] : List Int)), (0), (by first | rfl | (simp; done) | (simp [*]; done)), H', ⟨Nat.le_refl _⟩, ⟨by first | exact Kd.R_nil _ _ _ _ _ | exact Kd.N_nil _ _ _ _ _ | exact Kd.V_nil _ _ _ _ _ | exact Kd.Q_nil _ _ _ _ _ | exact Kd.S_nil _ _ _ _ _⟩, ⟨by (with_reducible repeat (first | apply Kd.R_alloc | apply Kd.R_drewN | apply Kd.R_drew)); exact HO107.out⟩, ⟨by repeat (first | (with_reducible first | exact HB.out | apply below_alloc | apply pw_below_drewN | apply below_drew1) | exact HB.out)⟩⟩
  case round =>
    clear H'; (try clear c2); (try clear p2); obtain ⟨x3_1, x13_1, rfl, HA, HK1, HO_3, HO_11, HB⟩ := hrel
    cases gk with
    | zero => exact absurd HA.out (by simp [units_To.l0])
    | succ k1 =>
      have H := HA.out; clear HA; simp only [units_To.l0] at H; by_cases c5 : x13_1 < (t105.length : Int)
      · rw [if_pos c5] at H; have c5b0 : decide (x13_1 < (t105.length : Int)) = true := decide_eq_true c5; clear c5; by_cases c6 : 0 ≤ x13_1
        · rw [if_pos c6] at H; have c6b0 : decide (0 ≤ x13_1) = true := decide_eq_true c6; clear c6; by_cases c7 : x13_1 < (t105.length : Int)
          · rw [if_pos c7] at H; have c7b0 : decide (x13_1 < (t105.length : Int)) = true := decide_eq_true c7; clear c7; replace H := Option.bind_eq_some_iff.mp H; obtain ⟨⟨t109, t110, t111⟩, A80, H⟩ := H; replace H : (if t111 = true then ((some (([t109, t110] : List Int) : List Int)).bind fun y112 => (if x3_1.length + y112.length < 70368744177664 then (units_To.l0 k1 (x3_1 ++ y112) t105 (t105.length : Int) (wrap64 (x13_1 + 1))) else (none))) else (if x3_1.length < 70368744177664 then (units_To.l0 k1 (x3_1 ++ [IntKind.u16.wrap (rd t105 x13_1)]) t105 (t105.length : Int) (wrap64 (x13_1 + 1))) else (none))) = some r := H; have A8 := Aside0.mk A80; clear A80; by_cases c9 : t111 = true
            · subst c9; (have H1 : ((some (([t109, t110] : List Int) : List Int)).bind fun y112 => (if x3_1.length + y112.length < 70368744177664 then (units_To.l0 k1 (x3_1 ++ y112) t105 (t105.length : Int) (wrap64 (x13_1 + 1))) else (none))) = some r := by rw [if_pos rfl] at H; exact H); clear H; have H := H1; clear H1; obtain ⟨y112, hy112⟩ : ∃ y_ : List Int, y_ = (([t109, t110] : List Int)) := ⟨_, rfl⟩; (replace H : (if x3_1.length + y112.length < 70368744177664 then (units_To.l0 k1 (x3_1 ++ y112) t105 (t105.length : Int) (wrap64 (x13_1 + 1))) else (none)) = some r := by first | (rw [hy112]; with_reducible exact H) | (have H2_ := (Option.bind_some _ _).symm.trans H; rw [hy112]; with_reducible exact H2_) | (have H2_ := (Option.bind_some _ _).symm.trans H; with_reducible exact H2_) | with_reducible exact H | (rw [hy112]; exact H) | exact H); have Ny112 := Aside0.mk hy112; clear hy112; by_cases c10 : x3_1.length + y112.length < 70368744177664; · rw [if_pos c10] at H; have LMc10 := Aside0.mk c10; clear c10; obtain ⟨y115, hy115⟩ : ∃ y_ : List Int, y_ = (x3_1 ++ y112) := ⟨_, rfl⟩; (replace H : (units_To.l0 k1 y115 t105 (t105.length : Int) (wrap64 (x13_1 + 1))) = some r := by first | (rw [hy115]; with_reducible exact H) | (have H2_ := (Option.bind_some _ _).symm.trans H; rw [hy115]; with_reducible exact H2_) | (have H2_ := (Option.bind_some _ _).symm.trans H; with_reducible exact H2_) | with_reducible exact H | (rw [hy115]; exact H) | exact H); have Ny115 := Aside0.mk hy115; clear hy115; have H' := Aside0.mk H; clear H; have p108 : 0 ≤ (x13_1 : Int) := of_decide_eq_true (by first | (with_reducible assumption) | assumption); have q108 : x13_1 < (t105.length : Int) := of_decide_eq_true (by first | (with_reducible assumption) | assumption); obtain ⟨ad108, e108, hx108_0⟩ := Kd.at_int (Kd.R_reads' HO_11.out).2.2 x13_1 p108 q108; cases e108; replace p108 := eq_true p108; replace q108 := eq_true q108; (go_wp2_with (first | ((with_reducible refine gate_callee (f := 17) rfl ?_); refine goesL_ (some 19) rfl rfl Tryd.func17 (by kernel_rfl) rfl #[.int .i32 (rd t105 x13_1)] rfl (by (try simp only [List.map_toArray, List.map_cons, List.map_nil]); first | done | rfl | (simp only [List.length_drop, List.length_take]; rfl)) ?_; (with_reducible refine (units_Split.calls k1 (rd t105 x13_1) t109 t110 true _ A8.out).mono ?_); rintro e w' ⟨rfl, ⟨nd, rfl⟩⟩; refine ⟨_, rfl, ?_⟩) | ((with_reducible refine gate_dst (N := 27) rfl ?_); refine Kd.R_lit (Kd.int .u16) _ 22 ?hg (N := 27) ?hd (xs := ([t109, t110] : List Int)) (inner := [.int .u16 t109, .int .u16 t110]) (ok := fun _ => True) (okp := fun _ => True) ?hr ?hp (fun _ hk => hk) trivial (Below.refl _ _) (Nat.le_refl _) (by simp) ?_; (case hd => rfl); (case hg => rfl); (case hr => first | (go_simp; done) | (go_simp; rfl)); (case hp => exact (Reps.one (show Kd.M (Kd.int .u16) _ _ _ t109 [.int .u16 t109] from rfl) (Reps.one (show Kd.M (Kd.int .u16) _ _ _ t110 [.int .u16 t110] from rfl) (Reps.none _ _)))); intro v113 w11 ho12 hb hg_ hnew_; clear hg_ hnew_; (first | rw [← Ny112.out] at ho12 | (simp only [Int.reduceToNat] at ho12; rw [← Ny112.out] at ho12)); have n0_ := Aside0.mk (Kd.R_elder' (by (with_reducible repeat (first | apply Kd.R_alloc | apply Kd.R_drewN | apply Kd.R_drew)); exact HO_3.out) (Kd.R_base ho12) hb); have n1_ := Aside0.mk (Kd.R_below (by (with_reducible repeat (first | apply Kd.R_alloc | apply Kd.R_drewN | apply Kd.R_drew)); exact HO_11.out) hb); have n2_ := Aside0.mk (Kd.R_lower (Kd.R_new' ho12 (Kd.R_lt (by (with_reducible repeat (first | apply Kd.R_alloc | apply Kd.R_drewN | apply Kd.R_drew)); exact HO_3.out))) (below_size (by repeat (first | (with_reducible first | exact HB.out | apply below_alloc | apply pw_below_drewN | apply below_drew1) | exact HB.out)))); have n3_ := Aside0.mk (below_step (by repeat (first | (with_reducible first | exact HB.out | apply below_alloc | apply pw_below_drewN | apply below_drew1) | exact HB.out)) hb); clear HO_3; clear HO_11; clear HB; have HO_3 := n0_; have HO_11 := n1_; have HO114 := n2_; have HB := n3_; clear n0_ n1_ n2_ n3_; clear hb ho12; obtain ⟨Ao14, co14, eo14⟩ := Kd.R_slice HO114.out; subst eo14) | ((with_reducible refine gate_builtin (b := .append) (xs := #[.tmp 24, .tmp 27]) rfl ?_); at_builtin; refine Kd.R_append_rows (Kd.int .u16) (w0 := w) w.heap.size rfl (.tmp 24) (.tmp 27) 31 22 (.int .u16 0) 2 rfl Tryd.underlying31 info22 rfl (by decide) (by omega) u3 x3_1 y112 _ _ _ (fun k_ => some k_ ≠ (.slice Ao14 y112.length co14 : Value).ownBlock) (fun _ => False) rfl rfl ?aO ?aR (fun _ _ h => h) (fun _ h => h.elim) ?aF ?aB ?aS ?aL ?_; (case aR => repeat (first | exact (Kd.R_reads' HO114.out).2.2 | (with_reducible refine Kd.C_alloc ?_ _) | (with_reducible refine Kd.C_drewN ?_ _) | (with_reducible refine Kd.C_drew ?_))); (case aB => exact (by repeat (first | (with_reducible first | exact HB.out | apply below_alloc | apply pw_below_drewN | apply below_drew1) | exact HB.out))); (case aF => exact (fun k_ hk => Kd.fresh' (Kd.R_lt (by (with_reducible repeat (first | apply Kd.R_alloc | apply Kd.R_drewN | apply Kd.R_drew)); exact HO114.out)) k_ hk)); (case aO => exact (by (with_reducible repeat (first | apply Kd.R_alloc | apply Kd.R_drewN | apply Kd.R_drew)); exact Kd.R_mono HO_3.out (fun _ hk => hk.2))); (case aS => exact (below_size (by repeat (first | (with_reducible first | exact HB.out | apply below_alloc | apply pw_below_drewN | apply below_drew1) | exact HB.out)))); (case aL => have := LMc10.out; omega); intro v116 w13 ho hb hg hat; rw [← Ny115.out] at ho; have n0_ := Aside0.mk (Kd.R_over' (by (with_reducible repeat (first | apply Kd.R_alloc | apply Kd.R_drewN | apply Kd.R_drew)); exact HO_11.out) (Kd.R_typed (by (with_reducible repeat (first | apply Kd.R_alloc | apply Kd.R_drewN | apply Kd.R_drew)); exact HO_3.out)) (by decide) hg); have n1_ := Aside0.mk (Kd.R_after (ok := (fun _ => True)) (by (with_reducible repeat (first | apply Kd.R_alloc | apply Kd.R_drewN | apply Kd.R_drew)); exact HO114.out) hg hat); have n2_ := Aside0.mk (hb); have n3_ := Aside0.mk (ho); clear HO_11; clear HO114; clear HB; clear HO_3; have HO_11 := n0_; have HO114 := n1_; have HB := n2_; have HO117 := n3_; clear n0_ n1_ n2_ n3_; clear ho hb hg hat))); (go_roundg k1); (case measure => have := HK1.out; omega); case rel => exact ⟨(y115), (wrap64 (x13_1 + 1)), (by first | rfl | (simp; done) | (simp [*]; done)), H', ⟨by have := HK1.out; omega⟩, ⟨by (with_reducible repeat (first | apply Kd.R_alloc | apply Kd.R_drewN | apply Kd.R_drew)); exact Kd.R_mono HO117.out (fun _ hk => trivial)⟩, ⟨by (with_reducible repeat (first | apply Kd.R_alloc | apply Kd.R_drewN | apply Kd.R_drew)); exact HO_11.out⟩, ⟨by repeat (first | (with_reducible first | exact HB.out | apply below_alloc | apply pw_below_drewN | apply below_drew1) | exact HB.out)⟩⟩
              · rw [if_neg c10] at H; exact absurd H (by simp)
            · replace c9 := Bool.eq_false_iff.mpr c9; subst c9; (have H1 : (if x3_1.length < 70368744177664 then (units_To.l0 k1 (x3_1 ++ [IntKind.u16.wrap (rd t105 x13_1)]) t105 (t105.length : Int) (wrap64 (x13_1 + 1))) else (none)) = some r := by rw [if_neg (show ¬ (false = true) by decide)] at H; exact H); clear H; have H := H1; clear H1; by_cases c15 : x3_1.length < 70368744177664; · rw [if_pos c15] at H; have LMc15 := Aside0.mk c15; clear c15; obtain ⟨y118, hy118⟩ : ∃ y_ : List Int, y_ = (x3_1 ++ [IntKind.u16.wrap (rd t105 x13_1)]) := ⟨_, rfl⟩; (replace H : (units_To.l0 k1 y118 t105 (t105.length : Int) (wrap64 (x13_1 + 1))) = some r := by first | (rw [hy118]; with_reducible exact H) | (have H2_ := (Option.bind_some _ _).symm.trans H; rw [hy118]; with_reducible exact H2_) | (have H2_ := (Option.bind_some _ _).symm.trans H; with_reducible exact H2_) | with_reducible exact H | (rw [hy118]; exact H) | exact H); have Ny118 := Aside0.mk hy118; clear hy118; have H' := Aside0.mk H; clear H; have p108 : 0 ≤ (x13_1 : Int) := of_decide_eq_true (by first | (with_reducible assumption) | assumption); have q108 : x13_1 < (t105.length : Int) := of_decide_eq_true (by first | (with_reducible assumption) | assumption); obtain ⟨ad108, e108, hx108_0⟩ := Kd.at_int (Kd.R_reads' HO_11.out).2.2 x13_1 p108 q108; cases e108; replace p108 := eq_true p108; replace q108 := eq_true q108; (go_wp2_with (first | ((with_reducible refine gate_callee (f := 17) rfl ?_); refine goesL_ (some 19) rfl rfl Tryd.func17 (by kernel_rfl) rfl #[.int .i32 (rd t105 x13_1)] rfl (by (try simp only [List.map_toArray, List.map_cons, List.map_nil]); first | done | rfl | (simp only [List.length_drop, List.length_take]; rfl)) ?_; (with_reducible refine (units_Split.calls k1 (rd t105 x13_1) t109 t110 false _ A8.out).mono ?_); rintro e w' ⟨rfl, ⟨nd, rfl⟩⟩; refine ⟨_, rfl, ?_⟩) | ((with_reducible refine gate_builtin (b := .append) (xs := #[.tmp 29, .tmp 32]) rfl ?_); at_builtin; refine Kd.R_append (Kd.int .u16) (w0 := w) w.heap.size rfl (.tmp 29) (.tmp 32) 31 22 (.int .u16 0) 2 rfl Tryd.underlying31 info22 rfl (by decide) (by omega) u3 x3_1 (IntKind.u16.wrap (rd t105 x13_1)) [.int .u16 (IntKind.u16.wrap (rd t105 x13_1))] (fun _ => True) (fun _ => False) rfl rfl ?aP (fun _ hk => hk.elim) ?aF ?aO ?aB ?aS ?aL ?_; (case aP => exact rfl); (case aB => exact (by repeat (first | (with_reducible first | exact HB.out | apply below_alloc | apply pw_below_drewN | apply below_drew1) | exact HB.out))); (case aF => exact (fun _ _ => trivial)); (case aO => exact (by (with_reducible repeat (first | apply Kd.R_alloc | apply Kd.R_drewN | apply Kd.R_drew)); exact HO_3.out)); (case aS => exact (below_size (by repeat (first | (with_reducible first | exact HB.out | apply below_alloc | apply pw_below_drewN | apply below_drew1) | exact HB.out)))); (case aL => have := LMc15.out; omega); intro v119 w16 ho hb hg hat; rw [← Ny118.out] at ho; have n0_ := Aside0.mk (Kd.R_over' (by (with_reducible repeat (first | apply Kd.R_alloc | apply Kd.R_drewN | apply Kd.R_drew)); exact HO_11.out) (Kd.R_typed (by (with_reducible repeat (first | apply Kd.R_alloc | apply Kd.R_drewN | apply Kd.R_drew)); exact HO_3.out)) (by decide) hg); have n1_ := Aside0.mk (hb); have n2_ := Aside0.mk (ho); clear HO_11; clear HB; clear HO_3; have HO_11 := n0_; have HB := n1_; have HO120 := n2_; clear n0_ n1_ n2_; clear ho hb hg hat))); (go_roundg k1); (case measure => have := HK1.out; omega); case rel => exact ⟨(y118), (wrap64 (x13_1 + 1)), (by first | rfl | (simp; done) | (simp [*]; done)), H', ⟨by have := HK1.out; omega⟩, ⟨by (with_reducible repeat (first | apply Kd.R_alloc | apply Kd.R_drewN | apply Kd.R_drew)); exact HO120.out⟩, ⟨by (with_reducible repeat (first | apply Kd.R_alloc | apply Kd.R_drewN | apply Kd.R_drew)); exact HO_11.out⟩, ⟨by repeat (first | (with_reducible first | exact HB.out | apply below_alloc | apply pw_below_drewN | apply below_drew1) | exact HB.out)⟩⟩
              · rw [if_neg c15] at H; exact absurd H (by simp)
          · rw [if_neg c7] at H; exact absurd H (by simp)
        · rw [if_neg c6] at H; exact absurd H (by simp)
      · rw [if_neg c5] at H; have c5b0 : decide (x13_1 < (t105.length : Int)) = false := decide_eq_false c5; clear c5; obtain rfl := Option.some.inj H; (go_wp2); (go_ret); exact ⟨_, by first | rfl | (simp [errW_none, errW_some] <;> rfl) | (simp [*, errW_none, errW_some] <;> rfl), by (with_reducible repeat (first | apply Kd.R_alloc | apply Kd.R_drewN | apply Kd.R_drew)); exact HO_3.out, by repeat (first | (with_reducible first | exact HB.out | apply below_alloc | apply pw_below_drewN | apply below_drew1) | exact HB.out)⟩
/-- The closure of ToExact: DC00 and the byte. -/
theorem exact_unit (a0 : Int) (h0 : 0 ≤ a0) (h1 : a0 ≤ 255) (w : World) :
    Calls Tryd.prog 54 #[.int .u8 a0] w fun e w' => e = .returned (.int .u16 (56320 + a0)) ∧ w = w' := by
  (go_enter Tryd.func54, Tryd.ntmps54); (go_wp2); (go_ret); exact ⟨rfl, rfl⟩
/-- The byte at a place is told as a bad one. -/
def badAt (s : ByteArray) (p : Nat) : Bool := (((Utf8.decode s p).1 : Int) == 65533) && (decide ((s.size : Int) - (p : Int) < 3) || ((s.extract p (p + 3)).toList != [239, 191, 189]))
def units_told.l0 : Nat → ByteArray → Nat → List Int → Option (List Int)
  | 0, _, _, _ => none
  | k + 1, s, p, out => if p < s.size then (if badAt s p = true then (if out.length < 70368744177664 then (units_told.l0 k s (p + (Utf8.decode s p).2) (out ++ [56320 + bt s p])) else (none)) else ((units_Split.f k ((Utf8.decode s p).1 : Int)).bind fun bt109 => (if bt109.2.2 = true then (if out.length + 2 < 70368744177664 then (units_told.l0 k s (p + (Utf8.decode s p).2) (out ++ [bt109.1, bt109.2.1])) else (none)) else (if out.length < 70368744177664 then (units_told.l0 k s (p + (Utf8.decode s p).2) (out ++ [IntKind.u16.wrap ((Utf8.decode s p).1 : Int)])) else (none))))) else (some out)
def units_ToExact.f (k : Nat) (l0 : List Int) : Option (List Int) := if l0.length ≤ 1099511627776 then (units_told.l0 k (strOfNums l0) 0 []) else (none)
theorem units_told.mono_l : ∀ k, (∀ y0 y1 y2, LeO (units_told.l0 k y0 y1 y2) (units_told.l0 (k + 1) y0 y1 y2))
  | 0 => fun _ _ _ r h => by simp [units_told.l0] at h
  | k + 1 => by
    have ih0 := units_told.mono_l k
    · intro y0 y1 y2; unfold units_told.l0
      repeat' first
      | (with_reducible exact ih0 _ _ _)
      | (with_reducible exact units_Split.mono _ _)
      | (with_reducible exact LeO.refl _)
      | (with_reducible exact LeO.none _)
      | (with_reducible refine LeO.ite ?_ ?_)
      | (with_reducible refine LeO.bind ?_ (fun _ => ?_))
      | exact ih0 _ _ _
      | exact units_Split.mono _ _
      | exact LeO.none _
      | refine LeO.ite ?_ ?_
      | refine LeO.bind ?_ (fun _ => ?_)
theorem units_ToExact.mono : ∀ a0 k, LeO (units_ToExact.f k a0) (units_ToExact.f (k + 1) a0) := by
  intro a0 k; unfold units_ToExact.f; exact LeO.ite (units_told.mono_l k _ _ _) (LeO.none _)
/-- What the loop of 'told' keeps: the string's iterator in the first new block, and the row that grows, which is another block. -/
structure Tinv (w W : World) (s : ByteArray) (p : Nat) (v : Value) (out : List Int) : Prop where
  it : W.heap[w.heap.size]? = some (.stringIter s p)
  row : Kd.R (Kd.int .u16) 22 W w.heap.size (fun k_ => k_ ≠ w.heap.size) v out
  bel : Below w.heap.size w W
theorem Tinv.drewN {w W : World} {s : ByteArray} {p : Nat} {v : Value} {out : List Int} (h : Tinv w W s p v out) (n : Nat) : Tinv w (W.drewN n) s p v out :=
  ⟨h.it, Kd.R_drewN h.row n, pw_below_drewN h.bel n⟩
theorem Tinv.lt {w W : World} {s : ByteArray} {p : Nat} {v : Value} {out : List Int} (h : Tinv w W s p v out) : w.heap.size < W.heap.size := (Array.getElem?_eq_some_iff.1 h.it).1
theorem Tinv.next {w W : World} {s : ByteArray} {p : Nat} {v : Value} {out : List Int} (h : Tinv w W s p v out) (p' : Nat) : Tinv w (W.iterAt w.heap.size s p') s p' v out :=
  ⟨Lib.iterAt_heap W w.heap.size s p p' h.it, Kd.R_step h.row (fun k_ hk _ => Lib.iterAt_other W w.heap.size k_ s p' hk), Lib.below_iterAt h.bel (Nat.le_refl _) s p'⟩
section
variable {ops : Array Oper} {rest : List Oper} {o : Oper} {a : Act} {Q : Exit → Act → World → Prop}
theorem T_one {w W : World} {s : ByteArray} {p : Nat} {v : Value} {out : List Int} (x : Int) (hgd : o.guard = none) (sl el : Operand) (ho : o.op = .call { callee := .builtin .append, args := #[sl, el], argTypes := #[31, 31] })
    (hs : a.eval sl = v) (hx : a.eval el = .slice (some ⟨W.heap.size, 0, none⟩) 1 1) (h : Tinv w W s p v out) (hl : out.length < 70368744177664)
    (K : ∀ v1 w1, Tinv w w1 s p v1 (out ++ [x]) → wpList Tryd.prog ops Q rest (a.put o.dst v1) w1) : wpList Tryd.prog ops Q (o :: rest) a (W.alloc (.cells #[.int .u16 x] 22)) := by
  refine Kd.R_append (Kd.int .u16) (w0 := w) w.heap.size hgd sl el 31 22 (.int .u16 0) 2 ho Tryd.underlying31 info22 rfl (by decide) (by omega) v out x [.int .u16 x] (fun k_ => k_ ≠ w.heap.size) (fun _ => False) hs hx rfl (fun _ hk => hk.elim) ?_ h.row h.bel h.bel.size (by omega) ?_; · intro k hk e; have := h.lt; omega
  · intro v1 w1 ho hb hg hat; exact K v1 w1 ⟨(hg.block _ h.lt (fun e => h.row.1 _ e.symm rfl)).trans h.it, ho, hb⟩
theorem T_two {w W : World} {s : ByteArray} {p : Nat} {v : Value} {out : List Int} (x y : Int) (hgd : o.guard = none) (sl el : Operand) (ho : o.op = .call { callee := .builtin .append, args := #[sl, el], argTypes := #[31, 31] })
    (hs : a.eval sl = v) (hx : a.eval el = .slice (some ⟨W.heap.size, 0, none⟩) 2 2) (h : Tinv w W s p v out) (hl : out.length + 2 < 70368744177664)
    (K : ∀ v1 w1, Tinv w w1 s p v1 (out ++ [x, y]) → wpList Tryd.prog ops Q rest (a.put o.dst v1) w1) : wpList Tryd.prog ops Q (o :: rest) a (W.alloc (.cells #[.int .u16 x, .int .u16 y] 22)) := by
  (have hne : ∀ k, W.heap.size ≤ k → k ≠ w.heap.size := fun k hk e => by have := h.lt; omega); have hsz : (W.alloc (.cells #[.int .u16 x, .int .u16 y] 22)).heap.size = W.heap.size + 1 := by simp
  have hread : Kd.C (Kd.int .u16) (W.alloc (.cells #[.int .u16 x, .int .u16 y] 22)) (some ⟨W.heap.size, 0, none⟩) 2 [x, y] := by
    refine Kd.C_of_reads (d := (0 : Int)) (h1 := fun _ => rfl) ⟨rfl, by omega, fun _ => ⟨_, rfl, fun j hj => ?_⟩⟩
    match j, hj with
    | 0, _ => simp [Addr.add]
    | 1, _ => simp [Addr.add]
  have hrow : Kd.R (Kd.int .u16) 22 (W.alloc (.cells #[.int .u16 x, .int .u16 y] 22)) w.heap.size (fun k_ => k_ ≠ w.heap.size) v out := Kd.R_alloc h.row _; refine Kd.R_append_rows (Kd.int .u16) (w0 := w) w.heap.size hgd sl el 31 22 (.int .u16 0) 2 ho Tryd.underlying31 info22 rfl (by decide) (by omega) v out [x, y] _ _ _ (fun k_ => k_ ≠ w.heap.size) (fun _ => False) hs hx hrow hread (fun _ _ h => h) (fun _ h => h.elim) ?_ (below_alloc h.bel _) (by rw [hsz]; have := h.lt; omega) (by omega) ?_; · intro k hk; exact hne k (by rw [hsz] at hk; omega)
  · intro v1 w1 ho hb hg hat; refine K v1 w1 ⟨(hg.block _ (by rw [hsz]; have := h.lt; omega) (fun e => h.row.1 _ e.symm rfl)).trans ?_, ho, hb⟩; rw [Below.heap_alloc _ _ _ h.lt]; exact h.it
end
theorem exact_at (s : ByteArray) (p : Nat) (hp : p < s.size) (w : World) :
    Calls Tryd.prog 54 #[.int .u8 ((s[p]'hp).toNat : Int)] w fun e w' => e = .returned (.int .u16 (56320 + bt s p)) ∧ w = w' := by
  have h := bt_at s (p : Int) (by simpa using hp); (have h1 : ((s[p]'hp).toNat : Int) = bt s (p : Int) := by rw [← h]; rfl); rw [h1]; have := bt_range s (p : Int); exact exact_unit _ this.1 this.2 w
set_option maxHeartbeats 4000000 in
set_option maxRecDepth 100000 in
theorem units_told.calls (k : Nat) (A0 : Option Addr) (c0 : Nat) (l0 : List Int) (r : List Int) (w : World) (hr0 : Kd.C (Kd.int .u8) w A0 l0.length l0) (hc0 : l0.length ≤ c0) (h : units_ToExact.f k l0 = some r) :
    Calls Tryd.prog 53 #[.slice A0 l0.length c0, .func (.func 54) #[] #[]] w fun e w' => ∃ v0_ : Value, e = .returned (v0_) ∧ Kd.R (Kd.int .u16) 22 w' w.heap.size (fun _ => True) v0_ r ∧ Below w.heap.size w w' := by
  unfold units_ToExact.f at h
  have hb_ : l0.length ≤ 1099511627776 := by
    by_cases hb_ : l0.length ≤ 1099511627776; · exact hb_
    · rw [if_neg hb_] at h; cases h
  rw [if_pos hb_] at h; have hcv1 := Kd.C_string (P := Tryd.prog) (A := A0) (c := c0) Tryd.underlying30 Tryd.underlying5 Tryd.underlying9 hr0
  have hsz : (strOfNums l0).size ≤ 1099511627776 := by
    (have : (strOfNums l0).size = l0.length := by simp [strOfNums, ByteArray.size]); omega
  generalize strOfNums l0 = s at *; have HA0 := Aside0.mk h; clear h hr0 hc0 hb_; (go_enter Tryd.func53, Tryd.ntmps53); (go_wp2); (go_loopg [5] k (fun kq v5 w' => ∃ (p : Nat) (out : List Int), Aside0 (Tinv w w' s p v5 out) ∧ Aside0 (units_told.l0 kq s p out = some r) ∧ Aside0 (kq ≤ k))); case atStart => exact ⟨0, [], ⟨World.iter_heap w s 0, Kd.R_nil _ _ _ _ _, below_alloc (Below.refl _ _) _⟩, HA0, ⟨Nat.le_refl _⟩⟩
  case round =>
    clear HA0; obtain ⟨p, out, HT0, HA, HK1⟩ := hrel
    cases gk with
    | zero => exact absurd HA.out (by simp [units_told.l0])
    | succ k1 =>
      have H := HA.out; clear HA; simp only [units_told.l0] at H; by_cases hp : p < s.size
      · rw [if_pos hp] at H; have hnx : ∀ ty, (Instr.next (.pointer (some ⟨w.heap.size, 0, none⟩)) true ty).run Tryd.prog wr = _ := fun ty => Lib.run_next_any_at wr w.heap.size s p ty HT0.out.it hp; have HT := Aside0.mk (HT0.out.next (p + (Utf8.decode s p).2)); obtain ⟨W1, hW1⟩ : ∃ W1, W1 = wr.iterAt w.heap.size s (p + (Utf8.decode s p).2) := ⟨_, rfl⟩; rw [← hW1] at hnx HT; clear hW1 HT0; (have hp1 : (p : Int) < (s.size : Int) := by omega); (have hp2 : 0 ≤ (s.size : Int) - (p : Int) := by omega); by_cases hbad : badAt s p = true
        · rw [if_pos hbad] at H
          have hlim : out.length < 70368744177664 := by
            by_cases hl : out.length < 70368744177664; · exact hl
            · rw [if_neg hl] at H; cases H
          rw [if_pos hlim] at H; have LM := Aside0.mk hlim; have H' := Aside0.mk H; clear H hlim; unfold badAt at hbad; rw [Bool.and_eq_true] at hbad; obtain ⟨hr1, hor⟩ := hbad; by_cases hlt : (s.size : Int) - (p : Int) < 3; · have hlt1 : decide ((s.size : Int) - (p : Int) < 3) = true := decide_eq_true hlt; clear hor; (go_wp2_with (first | (go_at_call 54; refine (exact_at s p hp _).mono ?_; rintro e w' ⟨rfl, rfl⟩) | ((with_reducible refine gate_builtin (b := .append) (xs := #[.tmp 37, .tmp 43]) rfl ?_); at_builtin; refine T_one (56320 + bt s p) rfl (.tmp 37) (.tmp 43) rfl rfl rfl HT.out LM.out ?_; intro v1 w1 ht1; have HT1 := Aside0.mk ht1; clear ht1))); (go_roundg k1); (case measure => have := HK1.out; omega); case rel => exact ⟨p + (Utf8.decode s p).2, out ++ [56320 + bt s p], HT1, H', ⟨by have := HK1.out; omega⟩⟩
          · have hlt1 : decide ((s.size : Int) - (p : Int) < 3) = false := decide_eq_false hlt
            have hne1 : ((s.extract p (p + 3)).toList != [239, 191, 189]) = true := by
              rw [hlt1, Bool.false_or] at hor; exact hor
            have hne2 : ((s.extract p (p + 3)).toList == [239, 191, 189]) = false := by
              have := hne1; rw [bne, Bool.not_eq_true'] at this; exact this
            clear hne1
            have hsl : ∀ W, (Instr.slice 9 (.string s) (some (.int .i64 (p : Int))) (some (.int .i64 ((p : Int) + 3))) none).run Tryd.prog W = .ok (.string (s.extract p (p + 3))) W := fun W => by
              have := run_slice_string (P := Tryd.prog) W 9 s .i64 .i64 (p : Int) ((p : Int) + 3) Tryd.underlying9 (by omega) (by omega) (by omega); rw [this]; rfl
            clear hor hlt; (go_wp2_with (first | (go_at_call 54; refine (exact_at s p hp _).mono ?_; rintro e w' ⟨rfl, rfl⟩) | ((with_reducible refine gate_builtin (b := .append) (xs := #[.tmp 37, .tmp 43]) rfl ?_); at_builtin; refine T_one (56320 + bt s p) rfl (.tmp 37) (.tmp 43) rfl rfl rfl HT.out LM.out ?_; intro v1 w1 ht1; have HT1 := Aside0.mk ht1; clear ht1))); (go_roundg k1); (case measure => have := HK1.out; omega); case rel => exact ⟨p + (Utf8.decode s p).2, out ++ [56320 + bt s p], HT1, H', ⟨by have := HK1.out; omega⟩⟩
        · rw [if_neg hbad] at H; replace H := Option.bind_eq_some_iff.mp H; obtain ⟨⟨t1, t2, t3⟩, hS, H⟩ := H; have AS := Aside0.mk hS; clear hS; replace H : (if t3 = true then (if out.length + 2 < 70368744177664 then (units_told.l0 k1 s (p + (Utf8.decode s p).2) (out ++ [t1, t2])) else (none)) else (if out.length < 70368744177664 then (units_told.l0 k1 s (p + (Utf8.decode s p).2) (out ++ [IntKind.u16.wrap ((Utf8.decode s p).1 : Int)])) else (none))) = some r := H
          have hway : Aside0 (((((Utf8.decode s p).1 : Int) == 65533) = false) ∨ ((((Utf8.decode s p).1 : Int) == 65533) = true ∧ ¬ ((s.size : Int) - (p : Int) < 3) ∧ ((s.extract p (p + 3)).toList == [239, 191, 189]) = true)) := by
            refine ⟨?_⟩; unfold badAt at hbad
            cases h1 : (((Utf8.decode s p).1 : Int) == 65533) with
            | false => exact .inl rfl
            | true =>
              rw [h1, Bool.true_and] at hbad; refine .inr ⟨rfl, fun hlt => hbad (by rw [decide_eq_true hlt, Bool.true_or]), ?_⟩
              cases h2 : ((s.extract p (p + 3)).toList == [239, 191, 189]) with
              | true => rfl
              | false => exact absurd (by rw [bne, h2]; simp) hbad
          clear hbad
          cases t3 with
          | true =>
            rw [if_pos rfl] at H
            have hlim : out.length + 2 < 70368744177664 := by
              by_cases hl : out.length + 2 < 70368744177664; · exact hl
              · rw [if_neg hl] at H; cases H
            rw [if_pos hlim] at H; have LM := Aside0.mk hlim; have H' := Aside0.mk H; clear H hlim; rcases hway.out with hr1 | ⟨hr1, hlt, heq⟩
            · clear hway; (go_wp2_with (first | (go_at_call 17; (with_reducible refine (units_Split.calls k1 ((Utf8.decode s p).1 : Int) t1 t2 true _ AS.out).mono ?_); rintro e w' ⟨rfl, ⟨nd, rfl⟩⟩) | ((with_reducible refine gate_builtin (b := .append) (xs := #[.tmp 52, .tmp 55]) rfl ?_); at_builtin; refine T_two t1 t2 rfl (.tmp 52) (.tmp 55) rfl rfl rfl (HT.out.drewN _) LM.out ?_; intro v1 w1 ht1; have HT1 := Aside0.mk ht1; clear ht1))); (go_roundg k1); (case measure => have := HK1.out; omega); case rel => exact ⟨p + (Utf8.decode s p).2, out ++ [t1, t2], HT1, H', ⟨by have := HK1.out; omega⟩⟩
            · clear hway; have hlt1 : decide ((s.size : Int) - (p : Int) < 3) = false := decide_eq_false hlt
              have hsl : ∀ W, (Instr.slice 9 (.string s) (some (.int .i64 (p : Int))) (some (.int .i64 ((p : Int) + 3))) none).run Tryd.prog W = .ok (.string (s.extract p (p + 3))) W := fun W => by
                have := run_slice_string (P := Tryd.prog) W 9 s .i64 .i64 (p : Int) ((p : Int) + 3) Tryd.underlying9 (by omega) (by omega) (by omega); rw [this]; rfl
              clear hlt; (go_wp2_with (first | (go_at_call 17; (with_reducible refine (units_Split.calls k1 ((Utf8.decode s p).1 : Int) t1 t2 true _ AS.out).mono ?_); rintro e w' ⟨rfl, ⟨nd, rfl⟩⟩) | ((with_reducible refine gate_builtin (b := .append) (xs := #[.tmp 52, .tmp 55]) rfl ?_); at_builtin; refine T_two t1 t2 rfl (.tmp 52) (.tmp 55) rfl rfl rfl (HT.out.drewN _) LM.out ?_; intro v1 w1 ht1; have HT1 := Aside0.mk ht1; clear ht1))); (go_roundg k1); case measure => have := HK1.out; omega
              case rel => exact ⟨p + (Utf8.decode s p).2, out ++ [t1, t2], HT1, H', ⟨by have := HK1.out; omega⟩⟩
          | false =>
            rw [if_neg (by decide)] at H
            have hlim : out.length < 70368744177664 := by
              by_cases hl : out.length < 70368744177664; · exact hl
              · rw [if_neg hl] at H; cases H
            rw [if_pos hlim] at H; have LM := Aside0.mk hlim; have H' := Aside0.mk H; clear H hlim; rcases hway.out with hr1 | ⟨hr1, hlt, heq⟩
            · clear hway; (go_wp2_with (first | (go_at_call 17; (with_reducible refine (units_Split.calls k1 ((Utf8.decode s p).1 : Int) t1 t2 false _ AS.out).mono ?_); rintro e w' ⟨rfl, ⟨nd, rfl⟩⟩) | ((with_reducible refine gate_builtin (b := .append) (xs := #[.tmp 57, .tmp 60]) rfl ?_); at_builtin; refine T_one (IntKind.u16.wrap ((Utf8.decode s p).1 : Int)) rfl (.tmp 57) (.tmp 60) rfl rfl rfl (HT.out.drewN _) LM.out ?_; intro v1 w1 ht1; have HT1 := Aside0.mk ht1; clear ht1))); (go_roundg k1); (case measure => have := HK1.out; omega); case rel => exact ⟨p + (Utf8.decode s p).2, out ++ [IntKind.u16.wrap ((Utf8.decode s p).1 : Int)], HT1, H', ⟨by have := HK1.out; omega⟩⟩
            · clear hway; have hlt1 : decide ((s.size : Int) - (p : Int) < 3) = false := decide_eq_false hlt
              have hsl : ∀ W, (Instr.slice 9 (.string s) (some (.int .i64 (p : Int))) (some (.int .i64 ((p : Int) + 3))) none).run Tryd.prog W = .ok (.string (s.extract p (p + 3))) W := fun W => by
                have := run_slice_string (P := Tryd.prog) W 9 s .i64 .i64 (p : Int) ((p : Int) + 3) Tryd.underlying9 (by omega) (by omega) (by omega); rw [this]; rfl
              clear hlt; (go_wp2_with (first | (go_at_call 17; (with_reducible refine (units_Split.calls k1 ((Utf8.decode s p).1 : Int) t1 t2 false _ AS.out).mono ?_); rintro e w' ⟨rfl, ⟨nd, rfl⟩⟩) | ((with_reducible refine gate_builtin (b := .append) (xs := #[.tmp 57, .tmp 60]) rfl ?_); at_builtin; refine T_one (IntKind.u16.wrap ((Utf8.decode s p).1 : Int)) rfl (.tmp 57) (.tmp 60) rfl rfl rfl (HT.out.drewN _) LM.out ?_; intro v1 w1 ht1; have HT1 := Aside0.mk ht1; clear ht1))); (go_roundg k1); (case measure => have := HK1.out; omega); case rel => exact ⟨p + (Utf8.decode s p).2, out ++ [IntKind.u16.wrap ((Utf8.decode s p).1 : Int)], HT1, H', ⟨by have := HK1.out; omega⟩⟩
      · rw [if_neg hp] at H; obtain rfl := Option.some.inj H; have hnx : ∀ ty, (Instr.next (.pointer (some ⟨w.heap.size, 0, none⟩)) true ty).run Tryd.prog wr = _ := fun ty => Lib.run_next_end_at wr w.heap.size s p ty HT0.out.it hp; (go_wp2); (go_ret); exact ⟨_, rfl, Kd.R_mono HT0.out.row (fun _ _ => trivial), HT0.out.bel⟩
set_option maxHeartbeats 1000000 in
set_option maxRecDepth 100000 in
theorem units_ToExact.calls (k : Nat) (A0 : Option Addr) (c0 : Nat) (l0 : List Int) (r : List Int) (w : World) (hr0 : Kd.C (Kd.int .u8) w A0 l0.length l0) (hc0 : l0.length ≤ c0) (h : units_ToExact.f k l0 = some r) :
    Calls Tryd.prog 24 #[.slice A0 l0.length c0] w fun e w' => ∃ v0_ : Value, e = .returned (v0_) ∧ Kd.R (Kd.int .u16) 22 w' w.heap.size (fun _ => True) v0_ r ∧ Below w.heap.size w w' := by
  have HR0 := Aside0.mk hr0; have HC0 := Aside0.mk hc0; have HA0 := Aside0.mk h; clear hr0 hc0 h; (go_enter Tryd.func24, Tryd.ntmps24); (go_wp2_with (first | (go_at_call 53; (with_reducible refine (units_told.calls k A0 c0 l0 r _ HR0.out HC0.out HA0.out).mono ?_); rintro e w1 ⟨v1, rfl, hR, hB⟩; have HR1 := Aside0.mk hR; have HB1 := Aside0.mk hB; clear hR hB))); (go_ret); exact ⟨_, rfl, HR1.out, HB1.out⟩
end Go.Proofs.YtcdehlnkilcgaaaDoor.Q
