/- A guarded operation whose guard holds is walked like one that has none; conversions of bytes to a string as a region's own fact. -/
import Derived.Test.YtcdehlnkilcgaaaDoorWideOwnQ0
namespace Go.Proofs.YtcdehlnkilcgaaaDoor.Q
open Go.RowKit Go.Proofs.YtcdehlnkilcgaaaDoorW.PrintWords
/-- In this world the bytes convert to their string. -/
abbrev Conv (v : Value) (xs : List Int) (w : World) : Prop := (convert 30 9 v).run Tryd.prog w = .ok (.string (strOfNums xs)) w
abbrev Both (A B : World → Prop) (w : World) : Prop := A w ∧ B w
theorem conv_own {e base : Nat} {ok : Nat → Prop} {v : Value} {xs : List Int} {w : World} (h : (Kd.int .u8).R e w base ok v xs) : Conv v xs w :=
  own_string (P := Tryd.prog) Tryd.underlying30 Tryd.underlying5 Tryd.underlying9 (Kd.own_of_R h)
end Go.Proofs.YtcdehlnkilcgaaaDoor.Q
