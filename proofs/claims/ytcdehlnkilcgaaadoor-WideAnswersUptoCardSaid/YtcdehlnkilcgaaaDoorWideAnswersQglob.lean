/- What a row that lists the two tables octet.spans and octet.needs gives a call: the cells of both blocks. Condition: the row's list. -/
import Derived.Test.YtcdehlnkilcgaaaDoorCards
import Derived.Test.YtcdehlnkilcgaaaDoorTie
import Derived.Test.YtcdehlnkilcgaaaDoorWideAnswersQ0
import Derived.Stop.LaidErr
namespace Go.Proofs.YtcdehlnkilcgaaaDoor.Q
open Go.Lib
theorem gSpans : Tryd.prog.globalNamed "galley/octet.spans" = some 1 := by kernel_rfl
theorem gNeeds : Tryd.prog.globalNamed "galley/octet.needs" = some 0 := by kernel_rfl
theorem tSpans : (Tryd.prog.globals[1]?).map (·.type) = some 94 := by kernel_rfl
theorem tNeeds : (Tryd.prog.globals[0]?).map (·.type) = some 91 := by kernel_rfl
theorem c94 : Tryd.prog.cellsOf 94 = 21 := by kernel_rfl
theorem c93 : Tryd.prog.cellsOf 93 = 3 := by kernel_rfl
theorem c91 : Tryd.prog.cellsOf 91 = 7 := by kernel_rfl
theorem c3 : Tryd.prog.cellsOf 3 = 1 := by kernel_rfl
theorem c87 : Tryd.prog.cellsOf 87 = 1 := by kernel_rfl
theorem var_block {w : World} {name : String} {g : Nat} {cs : Array Value} (hg : Tryd.prog.globalNamed name = some g) (h : w.var? Tryd.prog name = some cs) : ∃ t fr, w.heap[g]? = some (.cells cs t fr) := by
  unfold World.var? at h; rw [hg] at h; simp only [Option.bind_some] at h; split at h
  · (rename_i c t fr heq); cases h; exact ⟨_, _, heq⟩
  · cases h
theorem span_cells {H : Type} {enc : TypeId × Value → H} {w : World} {base : Nat} {sp : Nat → Bool} {held : Bool} {fuel : Nat} {cs : List Value} {a b c : Int} {p : List MemPlace}
    (h : DataW.trod enc Tryd.prog w base sp held fuel 93 cs = some (.agg [.lit (.int .i64 a), .lit (.int .i64 b), .lit (.int .i64 c)], p)) : cs = [.int .i64 a, .int .i64 b, .int .i64 c] := by
  cases fuel with
  | zero => simp [DataW.trod] at h
  | succ fuel =>
    simp only [DataW.trod, Tryd.underlying93, c93] at h; split at h
    · (rename_i hl); simp only [List.mapM_cons, List.mapM_nil, Option.bind_eq_bind, Option.pure_def, Option.map_eq_some_iff, Option.bind_eq_some_iff, Option.some.injEq] at h; obtain ⟨xs, ⟨x1, h1, y1, ⟨x2, h2, y2, ⟨x3, h3, y3, rfl, rfl⟩, rfl⟩, rfl⟩, hx⟩ := h; rw [c3] at h1 h2; rw [c87] at h3; obtain ⟨n1, e1, rfl, _⟩ := DataW.trod_int Tryd.underlying3 h1; obtain ⟨n2, e2, rfl, _⟩ := DataW.trod_int Tryd.underlying3 h2; obtain ⟨n3, e3, rfl, _⟩ := DataW.trod_int Tryd.underlying87 h3; simp only [List.map_cons, List.map_nil, Prod.mk.injEq, DataW.agg.injEq, List.cons.injEq, DataW.lit.injEq, Lit.int.injEq, and_true, true_and] at hx; obtain ⟨⟨rfl, rfl, rfl⟩, _⟩ := hx
      match cs, hl with
      | [u, v, z], _ =>
        (simp at e1 e2 e3); rw [e1, e2, e3]
    · cases h
theorem spans_cells {H : Type} {enc : TypeId × Value → H} {w : World} {base : Nat} {sp : Nat → Bool} {held : Bool} {fuel : Nat} {cs : List Value} {p : List MemPlace}
    (h : DataW.trod enc Tryd.prog w base sp held fuel 94 cs = some (Rows.laid_galley_octet_spans, p)) : cs = spansV.toList := by
  cases fuel with
  | zero => simp [DataW.trod] at h
  | succ fuel =>
    simp only [DataW.trod, Tryd.underlying94, c93, c94] at h; split at h
    · (rename_i hl); rw [show List.range 7 = [0, 1, 2, 3, 4, 5, 6] from rfl] at h; simp only [List.mapM_cons, List.mapM_nil, Option.bind_eq_bind, Option.pure_def, Option.map_eq_some_iff, Option.bind_eq_some_iff, Option.some.injEq] at h; obtain ⟨xs, ⟨x1, h1, y1, ⟨x2, h2, y2, ⟨x3, h3, y3, ⟨x4, h4, y4, ⟨x5, h5, y5, ⟨x6, h6, y6, ⟨x7, h7, y7, rfl, rfl⟩, rfl⟩, rfl⟩, rfl⟩, rfl⟩, rfl⟩, rfl⟩, hx⟩ := h; unfold Rows.laid_galley_octet_spans at hx; simp only [List.map_cons, List.map_nil, Prod.mk.injEq, DataW.agg.injEq, List.cons.injEq, and_true] at hx; obtain ⟨⟨e1, e2, e3, e4, e5, e6, e7⟩, _⟩ := hx; have g1 := span_cells (h1.trans (congrArg some (Prod.ext e1 rfl))); have g2 := span_cells (h2.trans (congrArg some (Prod.ext e2 rfl))); have g3 := span_cells (h3.trans (congrArg some (Prod.ext e3 rfl))); have g4 := span_cells (h4.trans (congrArg some (Prod.ext e4 rfl))); have g5 := span_cells (h5.trans (congrArg some (Prod.ext e5 rfl))); have g6 := span_cells (h6.trans (congrArg some (Prod.ext e6 rfl))); have g7 := span_cells (h7.trans (congrArg some (Prod.ext e7 rfl)))
      have step : ∀ (k : Nat) (l : List Value), l.drop k = (l.drop k).take 3 ++ l.drop (k + 3) := fun k l => by
        rw [← List.drop_drop]; exact (List.take_append_drop 3 _).symm
      (have e0 : cs = cs.drop (0 * 3) := by simp); rw [e0, step, g1, step, g2, step, g3, step, g4, step, g5, step, g6, step, g7, List.drop_of_length_le (by omega)]; rfl
    · cases h
theorem needs_cells {H : Type} {enc : TypeId × Value → H} {w : World} {base : Nat} {sp : Nat → Bool} {held : Bool} {fuel : Nat} {cs : List Value} {p : List MemPlace}
    (h : DataW.trod enc Tryd.prog w base sp held fuel 91 cs = some (Rows.laid_galley_octet_needs, p)) : cs = needsV.toList :=
  cells_of_tab (zs := [0, 1, 0, 2, 3, 4, 0]) Tryd.underlying91 Tryd.underlying3 c3 c91 h
/-- What the row's list gives: the two tables. -/
theorem glob_of_laid {W : World} (h : laidMet Tryd.prog [("galley/octet.spans", Rows.laid_galley_octet_spans), ("galley/octet.needs", Rows.laid_galley_octet_needs)] W) : Glob W := by
  have h2 := laidMet.tail h; constructor; · obtain ⟨ps, ⟨g', t', cs, fuel, p, q, hg', ht', hvar, hd, _, _⟩, _⟩ := h2; obtain rfl := Option.some.inj (tNeeds.symm.trans (by rw [← ht', ← Option.some.inj (gNeeds.symm.trans hg')])); obtain ⟨t, fr, hb⟩ := var_block gNeeds hvar; refine ⟨t, fr, ?_⟩; rw [hb, show cs = needsV from Array.ext' (needs_cells hd)]
  · obtain ⟨ps, ⟨g', t', cs, fuel, p, q, hg', ht', hvar, hd, _, _⟩, _⟩ := h; obtain rfl := Option.some.inj (tSpans.symm.trans (by rw [← ht', ← Option.some.inj (gSpans.symm.trans hg')])); obtain ⟨t, fr, hb⟩ := var_block gSpans hvar; refine ⟨t, fr, ?_⟩; rw [hb, show cs = spansV from Array.ext' (spans_cells hd)]
theorem glob_of {W : World} (h : laidMetH Tryd.prog [("galley/octet.spans", Rows.laid_galley_octet_spans), ("galley/octet.needs", Rows.laid_galley_octet_needs)] W) : Glob W := glob_of_laid h
end Go.Proofs.YtcdehlnkilcgaaaDoor.Q
