/- A guarded operation whose guard holds is walked like one that has none. -/
import Derived.Test.YtcdehlnkilcgaaaDoorVWords
namespace Go.Proofs.YtcdehlnkilcgaaaDoor.Q
open Go.RowKit
theorem unguard {P : Program} {ops : Array Oper} {Q : Exit → Act → World → Prop} {rest : List Oper} {a : Act} {w : World} {d : Option Tmp} {op : Op} {t : TypeId} {p : String} {af : Array Edge} {g : Nat × Bool}
    (hw : Region.wanted { dst := d, op := op, type := t, pos := p, after := af, guard := some g } (yielded ops a.tmps) = true)
    (h : wpList P ops Q ({ dst := d, op := op, type := t, pos := p, after := af, guard := none } :: rest) a w) :
    wpList P ops Q ({ dst := d, op := op, type := t, pos := p, after := af, guard := some g } :: rest) a w := by
  unfold wpList at h ⊢
  rw [if_pos hw]
  rw [if_pos (by simp [Region.wanted])] at h
  exact h
end Go.Proofs.YtcdehlnkilcgaaaDoor.Q
