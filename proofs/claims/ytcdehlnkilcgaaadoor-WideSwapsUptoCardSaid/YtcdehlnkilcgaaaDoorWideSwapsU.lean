/- A guarded operation whose guard holds is walked like one that has none; conversions of bytes to a string as a region's own fact. -/
import Derived.Test.YtcdehlnkilcgaaaDoorWideSwapsQ0
namespace Go.Proofs.YtcdehlnkilcgaaaDoor.Q
open Go.RowKit Go.Proofs.YtcdehlnkilcgaaaDoorW.PrintWords
/-- In this world the bytes convert to their string. -/
abbrev Conv (v : Value) (xs : List Int) (w : World) : Prop := (convert 30 9 v).run Tryd.prog w = .ok (.string (strOfNums xs)) w
theorem conv_C {A : Option Addr} {n c : Nat} {xs : List Int} {w : World} (h : (Kd.int .u8).C w A n xs) : Conv (.slice A n c) xs w :=
  Kd.C_string (P := Tryd.prog) (A := A) (c := c) Tryd.underlying30 Tryd.underlying5 Tryd.underlying9 h
end Go.Proofs.YtcdehlnkilcgaaaDoor.Q
