/-
  NARROWER THAN 'FOR EVERY INPUT', by the rows' own cells (each row's printed sentence says how): UnitsRunes: laid · UnitsTo: laid · WideSwaps: laid · WideOwn: laid · UnitsFrom: laid · UnitsFromExact: laid · UnitsOnly: laid · UnitsPairs: laid · UnitsOwn: laid · UnitsBack: laid · WideBack: laid · WideTurns: laid · WideAnswers: laid.
  DERIVED. THE GIVEN ROWS OF THIS SEAT. 13 by the template 'for every input the law returns true; each argument reads behind the call as it read before'; 0 by the template 'total and deterministic' (their statements: YtcdehlnkilcgaaaDoorTotals.lean).
  GIVEN WITH THE SEED: the statements are not yours to turn. If you find one false, say at which input.
  Laid BY PROGRAM, IN A SANDBOX (cutbox-rows.mjs): the forced cells as the released guide's own fill.sh prints them over the translation aeb102c5980910fc… (all of the seat's roots in one cut). By AI agents, Wed Nov 11 2026. No macro, syntax, notation, axiom, sorry.
-/
import Derived.Test.YtcdehlnkilcgaaaDoorChecked
import GoSem.Claim
import GoSem.ClaimJoined
import GoSem.ClaimMapViews
import Derived.JoinedTies
import Derived.KernelRfl
namespace Go.Proofs.YtcdehlnkilcgaaaDoor
/- THE CELL 'sum', in the pinned program and in every row, IS THE sha256 OF THE DUMP (.gsa) THAT YtcdehlnkilcgaaaDoorProg.lean LOADS. Nothing in Lean hashes anything: it is a label: what it is worth is what the hold of that sum in a sandbox is worth. -/
noncomputable def Tryd.pinned : Pinned := { name := "ytcdehlnkilcgaaadoor", sum := "aeb102c5980910fc889cdc3af6d48a8035b62e95a466d2b79efb0f60c11b887c", checked := Tryd.checked }
namespace Rows
def none {H : Type} : Left H := { results := [], args := [] }

/- WHAT THE LISTED PACKAGE-LEVEL VARIABLES READ AS WHEN THE CALL BEGINS. Each datum BY PROGRAM (the guide's laid-datum.mjs) off the statement by which the dump's own 'gosem.cut.vars' lays the variable. In a bare row this is a premise. The card (YtcdehlnkilcgaaaDoorCards.lean) ties it to the program's text. -/
def laid_galley_octet_spans {H : Type} : DataW H := .agg [.agg [.lit (.int .i64 0), .lit (.int .i64 127), .lit (.int .i64 1)], .agg [.lit (.int .i64 128), .lit (.int .i64 191), .lit (.int .i64 2)], .agg [.lit (.int .i64 192), .lit (.int .i64 193), .lit (.int .i64 6)], .agg [.lit (.int .i64 194), .lit (.int .i64 223), .lit (.int .i64 3)], .agg [.lit (.int .i64 224), .lit (.int .i64 239), .lit (.int .i64 4)], .agg [.lit (.int .i64 240), .lit (.int .i64 244), .lit (.int .i64 5)], .agg [.lit (.int .i64 245), .lit (.int .i64 255), .lit (.int .i64 6)]]
def laid_galley_octet_needs {H : Type} : DataW H := .agg [.lit (.int .i64 0), .lit (.int .i64 1), .lit (.int .i64 0), .lit (.int .i64 2), .lit (.int .i64 3), .lit (.int .i64 4), .lit (.int .i64 0)]

/-- 'galleylaw03.UnitsRunes': WHATEVER THE INPUT: true; the input reads as it did. -/
def unitsRunesSpec : ChangeSpec := { name := "unitsRunes", fn := fun _ => fun
  | [d1, d2, d3] => { results := [.lit (.bool true)], args := [d1, d2, d3] }
  | _ => none }
def unitsRunesRow : OpenClaim := { program := "ytcdehlnkilcgaaadoor", sum := "aeb102c5980910fc889cdc3af6d48a8035b62e95a466d2b79efb0f60c11b887c", func := "galley/galleylaw03.UnitsRunes", spec := "unitsRunes", unfollowed := true, recurses := true, named := ["galley/octet.needs", "galley/octet.spans"], apart := false, laid := [("galley/octet.spans", laid_galley_octet_spans), ("galley/octet.needs", laid_galley_octet_needs)] }
def UnitsRunesSaid : Prop := unitsRunesRow.holds Tryd.pinned (OpenSpec.ofChange unitsRunesSpec)

/-- ITS FALSE NEIGHBOUR: 'it returns false'. Refute it at one input. -/
def unitsRunesWrong : ChangeSpec := { name := "unitsRunes", fn := fun _ => fun
  | [d1, d2, d3] => { results := [.lit (.bool false)], args := [d1, d2, d3] }
  | _ => none }
def UnitsRunesWrongFalsely : Prop := unitsRunesRow.holds Tryd.pinned (OpenSpec.ofChange unitsRunesWrong)

/-- 'galleylaw03.UnitsTo': WHATEVER THE INPUT: true; the input reads as it did. -/
def unitsToSpec : ChangeSpec := { name := "unitsTo", fn := fun _ => fun
  | [d] => { results := [.lit (.bool true)], args := [d] }
  | _ => none }
def unitsToRow : OpenClaim := { program := "ytcdehlnkilcgaaadoor", sum := "aeb102c5980910fc889cdc3af6d48a8035b62e95a466d2b79efb0f60c11b887c", func := "galley/galleylaw03.UnitsTo", spec := "unitsTo", unfollowed := true, recurses := true, named := ["galley/octet.needs", "galley/octet.spans"], apart := false, laid := [("galley/octet.spans", laid_galley_octet_spans), ("galley/octet.needs", laid_galley_octet_needs)] }
def UnitsToSaid : Prop := unitsToRow.holds Tryd.pinned (OpenSpec.ofChange unitsToSpec)

/-- ITS FALSE NEIGHBOUR: 'it returns false'. Refute it at one input. -/
def unitsToWrong : ChangeSpec := { name := "unitsTo", fn := fun _ => fun
  | [d] => { results := [.lit (.bool false)], args := [d] }
  | _ => none }
def UnitsToWrongFalsely : Prop := unitsToRow.holds Tryd.pinned (OpenSpec.ofChange unitsToWrong)

/-- 'galleylaw32.WideSwaps': WHATEVER THE INPUT: true; the input reads as it did. -/
def wideSwapsSpec : ChangeSpec := { name := "wideSwaps", fn := fun _ => fun
  | [d1, d2] => { results := [.lit (.bool true)], args := [d1, d2] }
  | _ => none }
def wideSwapsRow : OpenClaim := { program := "ytcdehlnkilcgaaadoor", sum := "aeb102c5980910fc889cdc3af6d48a8035b62e95a466d2b79efb0f60c11b887c", func := "galley/galleylaw32.WideSwaps", spec := "wideSwaps", unfollowed := true, recurses := true, named := ["galley/octet.needs", "galley/octet.spans"], apart := false, laid := [("galley/octet.spans", laid_galley_octet_spans), ("galley/octet.needs", laid_galley_octet_needs)] }
def WideSwapsSaid : Prop := wideSwapsRow.holds Tryd.pinned (OpenSpec.ofChange wideSwapsSpec)

/-- ITS FALSE NEIGHBOUR: 'it returns false'. Refute it at one input. -/
def wideSwapsWrong : ChangeSpec := { name := "wideSwaps", fn := fun _ => fun
  | [d1, d2] => { results := [.lit (.bool false)], args := [d1, d2] }
  | _ => none }
def WideSwapsWrongFalsely : Prop := wideSwapsRow.holds Tryd.pinned (OpenSpec.ofChange wideSwapsWrong)

/-- 'galleylaw32.WideOwn': WHATEVER THE INPUT: true; the input reads as it did. -/
def wideOwnSpec : ChangeSpec := { name := "wideOwn", fn := fun _ => fun
  | [d1, d2, d3] => { results := [.lit (.bool true)], args := [d1, d2, d3] }
  | _ => none }
def wideOwnRow : OpenClaim := { program := "ytcdehlnkilcgaaadoor", sum := "aeb102c5980910fc889cdc3af6d48a8035b62e95a466d2b79efb0f60c11b887c", func := "galley/galleylaw32.WideOwn", spec := "wideOwn", unfollowed := true, recurses := true, named := ["galley/octet.needs", "galley/octet.spans"], apart := false, laid := [("galley/octet.spans", laid_galley_octet_spans), ("galley/octet.needs", laid_galley_octet_needs)] }
def WideOwnSaid : Prop := wideOwnRow.holds Tryd.pinned (OpenSpec.ofChange wideOwnSpec)

/-- ITS FALSE NEIGHBOUR: 'it returns false'. Refute it at one input. -/
def wideOwnWrong : ChangeSpec := { name := "wideOwn", fn := fun _ => fun
  | [d1, d2, d3] => { results := [.lit (.bool false)], args := [d1, d2, d3] }
  | _ => none }
def WideOwnWrongFalsely : Prop := wideOwnRow.holds Tryd.pinned (OpenSpec.ofChange wideOwnWrong)

/-- 'galleylaw03.UnitsFrom': WHATEVER THE INPUT: true; the input reads as it did. -/
def unitsFromSpec : ChangeSpec := { name := "unitsFrom", fn := fun _ => fun
  | [d] => { results := [.lit (.bool true)], args := [d] }
  | _ => none }
def unitsFromRow : OpenClaim := { program := "ytcdehlnkilcgaaadoor", sum := "aeb102c5980910fc889cdc3af6d48a8035b62e95a466d2b79efb0f60c11b887c", func := "galley/galleylaw03.UnitsFrom", spec := "unitsFrom", unfollowed := true, recurses := true, named := ["galley/octet.needs", "galley/octet.spans"], apart := false, laid := [("galley/octet.spans", laid_galley_octet_spans), ("galley/octet.needs", laid_galley_octet_needs)] }
def UnitsFromSaid : Prop := unitsFromRow.holds Tryd.pinned (OpenSpec.ofChange unitsFromSpec)

/-- ITS FALSE NEIGHBOUR: 'it returns false'. Refute it at one input. -/
def unitsFromWrong : ChangeSpec := { name := "unitsFrom", fn := fun _ => fun
  | [d] => { results := [.lit (.bool false)], args := [d] }
  | _ => none }
def UnitsFromWrongFalsely : Prop := unitsFromRow.holds Tryd.pinned (OpenSpec.ofChange unitsFromWrong)

/-- 'galleylaw03.UnitsFromExact': WHATEVER THE INPUT: true; the input reads as it did. -/
def unitsFromExactSpec : ChangeSpec := { name := "unitsFromExact", fn := fun _ => fun
  | [d] => { results := [.lit (.bool true)], args := [d] }
  | _ => none }
def unitsFromExactRow : OpenClaim := { program := "ytcdehlnkilcgaaadoor", sum := "aeb102c5980910fc889cdc3af6d48a8035b62e95a466d2b79efb0f60c11b887c", func := "galley/galleylaw03.UnitsFromExact", spec := "unitsFromExact", unfollowed := true, recurses := true, named := ["galley/octet.needs", "galley/octet.spans"], apart := false, laid := [("galley/octet.spans", laid_galley_octet_spans), ("galley/octet.needs", laid_galley_octet_needs)] }
def UnitsFromExactSaid : Prop := unitsFromExactRow.holds Tryd.pinned (OpenSpec.ofChange unitsFromExactSpec)

/-- ITS FALSE NEIGHBOUR: 'it returns false'. Refute it at one input. -/
def unitsFromExactWrong : ChangeSpec := { name := "unitsFromExact", fn := fun _ => fun
  | [d] => { results := [.lit (.bool false)], args := [d] }
  | _ => none }
def UnitsFromExactWrongFalsely : Prop := unitsFromExactRow.holds Tryd.pinned (OpenSpec.ofChange unitsFromExactWrong)

/-- 'galleylaw03.UnitsOnly': WHATEVER THE INPUT: true; the input reads as it did. -/
def unitsOnlySpec : ChangeSpec := { name := "unitsOnly", fn := fun _ => fun
  | [d] => { results := [.lit (.bool true)], args := [d] }
  | _ => none }
def unitsOnlyRow : OpenClaim := { program := "ytcdehlnkilcgaaadoor", sum := "aeb102c5980910fc889cdc3af6d48a8035b62e95a466d2b79efb0f60c11b887c", func := "galley/galleylaw03.UnitsOnly", spec := "unitsOnly", unfollowed := true, recurses := true, named := ["galley/octet.needs", "galley/octet.spans"], apart := false, laid := [("galley/octet.spans", laid_galley_octet_spans), ("galley/octet.needs", laid_galley_octet_needs)] }
def UnitsOnlySaid : Prop := unitsOnlyRow.holds Tryd.pinned (OpenSpec.ofChange unitsOnlySpec)

/-- ITS FALSE NEIGHBOUR: 'it returns false'. Refute it at one input. -/
def unitsOnlyWrong : ChangeSpec := { name := "unitsOnly", fn := fun _ => fun
  | [d] => { results := [.lit (.bool false)], args := [d] }
  | _ => none }
def UnitsOnlyWrongFalsely : Prop := unitsOnlyRow.holds Tryd.pinned (OpenSpec.ofChange unitsOnlyWrong)

/-- 'galleylaw03.UnitsPairs': WHATEVER THE INPUT: true; the input reads as it did. -/
def unitsPairsSpec : ChangeSpec := { name := "unitsPairs", fn := fun _ => fun
  | [d1, d2] => { results := [.lit (.bool true)], args := [d1, d2] }
  | _ => none }
def unitsPairsRow : OpenClaim := { program := "ytcdehlnkilcgaaadoor", sum := "aeb102c5980910fc889cdc3af6d48a8035b62e95a466d2b79efb0f60c11b887c", func := "galley/galleylaw03.UnitsPairs", spec := "unitsPairs", unfollowed := true, recurses := true, named := ["galley/octet.needs", "galley/octet.spans"], apart := false, laid := [("galley/octet.spans", laid_galley_octet_spans), ("galley/octet.needs", laid_galley_octet_needs)] }
def UnitsPairsSaid : Prop := unitsPairsRow.holds Tryd.pinned (OpenSpec.ofChange unitsPairsSpec)

/-- ITS FALSE NEIGHBOUR: 'it returns false'. Refute it at one input. -/
def unitsPairsWrong : ChangeSpec := { name := "unitsPairs", fn := fun _ => fun
  | [d1, d2] => { results := [.lit (.bool false)], args := [d1, d2] }
  | _ => none }
def UnitsPairsWrongFalsely : Prop := unitsPairsRow.holds Tryd.pinned (OpenSpec.ofChange unitsPairsWrong)

/-- 'galleylaw03.UnitsOwn': WHATEVER THE INPUT: true; the input reads as it did. -/
def unitsOwnSpec : ChangeSpec := { name := "unitsOwn", fn := fun _ => fun
  | [d1, d2] => { results := [.lit (.bool true)], args := [d1, d2] }
  | _ => none }
def unitsOwnRow : OpenClaim := { program := "ytcdehlnkilcgaaadoor", sum := "aeb102c5980910fc889cdc3af6d48a8035b62e95a466d2b79efb0f60c11b887c", func := "galley/galleylaw03.UnitsOwn", spec := "unitsOwn", unfollowed := true, recurses := true, named := ["galley/octet.needs", "galley/octet.spans"], apart := false, laid := [("galley/octet.spans", laid_galley_octet_spans), ("galley/octet.needs", laid_galley_octet_needs)] }
def UnitsOwnSaid : Prop := unitsOwnRow.holds Tryd.pinned (OpenSpec.ofChange unitsOwnSpec)

/-- ITS FALSE NEIGHBOUR: 'it returns false'. Refute it at one input. -/
def unitsOwnWrong : ChangeSpec := { name := "unitsOwn", fn := fun _ => fun
  | [d1, d2] => { results := [.lit (.bool false)], args := [d1, d2] }
  | _ => none }
def UnitsOwnWrongFalsely : Prop := unitsOwnRow.holds Tryd.pinned (OpenSpec.ofChange unitsOwnWrong)

/-- 'galleylaw03.UnitsBack': WHATEVER THE INPUT: true; the input reads as it did. -/
def unitsBackSpec : ChangeSpec := { name := "unitsBack", fn := fun _ => fun
  | [d] => { results := [.lit (.bool true)], args := [d] }
  | _ => none }
def unitsBackRow : OpenClaim := { program := "ytcdehlnkilcgaaadoor", sum := "aeb102c5980910fc889cdc3af6d48a8035b62e95a466d2b79efb0f60c11b887c", func := "galley/galleylaw03.UnitsBack", spec := "unitsBack", unfollowed := true, recurses := true, named := ["galley/octet.needs", "galley/octet.spans"], apart := false, laid := [("galley/octet.spans", laid_galley_octet_spans), ("galley/octet.needs", laid_galley_octet_needs)] }
def UnitsBackSaid : Prop := unitsBackRow.holds Tryd.pinned (OpenSpec.ofChange unitsBackSpec)

/-- ITS FALSE NEIGHBOUR: 'it returns false'. Refute it at one input. -/
def unitsBackWrong : ChangeSpec := { name := "unitsBack", fn := fun _ => fun
  | [d] => { results := [.lit (.bool false)], args := [d] }
  | _ => none }
def UnitsBackWrongFalsely : Prop := unitsBackRow.holds Tryd.pinned (OpenSpec.ofChange unitsBackWrong)

/-- 'galleylaw32.WideBack': WHATEVER THE INPUT: true; the input reads as it did. -/
def wideBackSpec : ChangeSpec := { name := "wideBack", fn := fun _ => fun
  | [d1, d2, d3] => { results := [.lit (.bool true)], args := [d1, d2, d3] }
  | _ => none }
def wideBackRow : OpenClaim := { program := "ytcdehlnkilcgaaadoor", sum := "aeb102c5980910fc889cdc3af6d48a8035b62e95a466d2b79efb0f60c11b887c", func := "galley/galleylaw32.WideBack", spec := "wideBack", unfollowed := true, recurses := true, named := ["galley/octet.needs", "galley/octet.spans"], apart := false, laid := [("galley/octet.spans", laid_galley_octet_spans), ("galley/octet.needs", laid_galley_octet_needs)] }
def WideBackSaid : Prop := wideBackRow.holds Tryd.pinned (OpenSpec.ofChange wideBackSpec)

/-- ITS FALSE NEIGHBOUR: 'it returns false'. Refute it at one input. -/
def wideBackWrong : ChangeSpec := { name := "wideBack", fn := fun _ => fun
  | [d1, d2, d3] => { results := [.lit (.bool false)], args := [d1, d2, d3] }
  | _ => none }
def WideBackWrongFalsely : Prop := wideBackRow.holds Tryd.pinned (OpenSpec.ofChange wideBackWrong)

/-- 'galleylaw32.WideTurns': WHATEVER THE INPUT: true; the input reads as it did. -/
def wideTurnsSpec : ChangeSpec := { name := "wideTurns", fn := fun _ => fun
  | [d1, d2, d3] => { results := [.lit (.bool true)], args := [d1, d2, d3] }
  | _ => none }
def wideTurnsRow : OpenClaim := { program := "ytcdehlnkilcgaaadoor", sum := "aeb102c5980910fc889cdc3af6d48a8035b62e95a466d2b79efb0f60c11b887c", func := "galley/galleylaw32.WideTurns", spec := "wideTurns", unfollowed := true, recurses := true, named := ["galley/octet.needs", "galley/octet.spans"], apart := false, laid := [("galley/octet.spans", laid_galley_octet_spans), ("galley/octet.needs", laid_galley_octet_needs)] }
def WideTurnsSaid : Prop := wideTurnsRow.holds Tryd.pinned (OpenSpec.ofChange wideTurnsSpec)

/-- ITS FALSE NEIGHBOUR: 'it returns false'. Refute it at one input. -/
def wideTurnsWrong : ChangeSpec := { name := "wideTurns", fn := fun _ => fun
  | [d1, d2, d3] => { results := [.lit (.bool false)], args := [d1, d2, d3] }
  | _ => none }
def WideTurnsWrongFalsely : Prop := wideTurnsRow.holds Tryd.pinned (OpenSpec.ofChange wideTurnsWrong)

/-- 'galleylaw32.WideAnswers': WHATEVER THE INPUT: true; the input reads as it did. -/
def wideAnswersSpec : ChangeSpec := { name := "wideAnswers", fn := fun _ => fun
  | [d] => { results := [.lit (.bool true)], args := [d] }
  | _ => none }
def wideAnswersRow : OpenClaim := { program := "ytcdehlnkilcgaaadoor", sum := "aeb102c5980910fc889cdc3af6d48a8035b62e95a466d2b79efb0f60c11b887c", func := "galley/galleylaw32.WideAnswers", spec := "wideAnswers", unfollowed := true, recurses := true, named := ["galley/octet.needs", "galley/octet.spans"], apart := false, laid := [("galley/octet.spans", laid_galley_octet_spans), ("galley/octet.needs", laid_galley_octet_needs)] }
def WideAnswersSaid : Prop := wideAnswersRow.holds Tryd.pinned (OpenSpec.ofChange wideAnswersSpec)

/-- ITS FALSE NEIGHBOUR: 'it returns false'. Refute it at one input. -/
def wideAnswersWrong : ChangeSpec := { name := "wideAnswers", fn := fun _ => fun
  | [d] => { results := [.lit (.bool false)], args := [d] }
  | _ => none }
def WideAnswersWrongFalsely : Prop := wideAnswersRow.holds Tryd.pinned (OpenSpec.ofChange wideAnswersWrong)

/- THE SECOND FORM. 'bulk': how many values and letters a reading holds, each counted each time it is reached (what is shared counts as often as it is met; a slice's spare places count too). A statement '..UptoSaid' is the law's where the arguments, and the package variables that the reading takes, are together of bulk at most 1048576: NARROWER than '..Said'. Prove '..Said' where nothing that the law and all that it calls make is longer than what came in: it says more and counts as full. Else prove '..UptoSaid'. A law counts once. -/
mutual
def uptoBulk {H : Type} : DataW H → Nat
  | .lit (.string bytes) => bytes.length + 1
  | .lit _ => 1
  | .nil => 1
  | .ptr d => uptoBulk d + 1
  | .slice elems spare => uptoBulkAll elems + uptoBulkAll spare + 1
  | .agg parts => uptoBulkAll parts + 1
  | .iface _ d => uptoBulk d + 1
  | .map entries => uptoBulkEntries entries + 1
  | .held _ => 1
def uptoBulkAll {H : Type} : List (DataW H) → Nat
  | [] => 0
  | d :: r => uptoBulk d + uptoBulkAll r
def uptoBulkEntries {H : Type} : List (Lit × DataW H) → Nat
  | [] => 0
  | x :: r => uptoBulkEntry x + uptoBulkEntries r
def uptoBulkEntry {H : Type} : Lit × DataW H → Nat
  | (.string bytes, d) => bytes.length + uptoBulk d + 1
  | (_, d) => uptoBulk d + 1
 end
def uptoSmall : (H : Type) → List (DataW H) → Bool := fun _ ds => decide (uptoBulkAll ds ≤ 1048576)
def OpenSpec.upto (s : _root_.Go.ChangeSpec) : _root_.Go.OpenSpec := { _root_.Go.OpenSpec.ofChange s with cond := some uptoSmall }

/-- 'galleylaw03.UnitsRunes', WHERE WHAT IT READS IS OF BULK AT MOST 1048576: true; the input reads as it did. -/
def unitsRunesUptoRow : OpenClaim := { program := "ytcdehlnkilcgaaadoor", sum := "aeb102c5980910fc889cdc3af6d48a8035b62e95a466d2b79efb0f60c11b887c", func := "galley/galleylaw03.UnitsRunes", spec := "unitsRunes", unfollowed := true, recurses := true, named := ["galley/octet.needs", "galley/octet.spans"], apart := false, laid := [("galley/octet.spans", laid_galley_octet_spans), ("galley/octet.needs", laid_galley_octet_needs)], narrowed := true }
def UnitsRunesUptoSaid : Prop := unitsRunesUptoRow.holds Tryd.pinned (OpenSpec.upto unitsRunesSpec)

/-- 'galleylaw03.UnitsTo', WHERE WHAT IT READS IS OF BULK AT MOST 1048576: true; the input reads as it did. -/
def unitsToUptoRow : OpenClaim := { program := "ytcdehlnkilcgaaadoor", sum := "aeb102c5980910fc889cdc3af6d48a8035b62e95a466d2b79efb0f60c11b887c", func := "galley/galleylaw03.UnitsTo", spec := "unitsTo", unfollowed := true, recurses := true, named := ["galley/octet.needs", "galley/octet.spans"], apart := false, laid := [("galley/octet.spans", laid_galley_octet_spans), ("galley/octet.needs", laid_galley_octet_needs)], narrowed := true }
def UnitsToUptoSaid : Prop := unitsToUptoRow.holds Tryd.pinned (OpenSpec.upto unitsToSpec)

/-- 'galleylaw32.WideSwaps', WHERE WHAT IT READS IS OF BULK AT MOST 1048576: true; the input reads as it did. -/
def wideSwapsUptoRow : OpenClaim := { program := "ytcdehlnkilcgaaadoor", sum := "aeb102c5980910fc889cdc3af6d48a8035b62e95a466d2b79efb0f60c11b887c", func := "galley/galleylaw32.WideSwaps", spec := "wideSwaps", unfollowed := true, recurses := true, named := ["galley/octet.needs", "galley/octet.spans"], apart := false, laid := [("galley/octet.spans", laid_galley_octet_spans), ("galley/octet.needs", laid_galley_octet_needs)], narrowed := true }
def WideSwapsUptoSaid : Prop := wideSwapsUptoRow.holds Tryd.pinned (OpenSpec.upto wideSwapsSpec)

/-- 'galleylaw32.WideOwn', WHERE WHAT IT READS IS OF BULK AT MOST 1048576: true; the input reads as it did. -/
def wideOwnUptoRow : OpenClaim := { program := "ytcdehlnkilcgaaadoor", sum := "aeb102c5980910fc889cdc3af6d48a8035b62e95a466d2b79efb0f60c11b887c", func := "galley/galleylaw32.WideOwn", spec := "wideOwn", unfollowed := true, recurses := true, named := ["galley/octet.needs", "galley/octet.spans"], apart := false, laid := [("galley/octet.spans", laid_galley_octet_spans), ("galley/octet.needs", laid_galley_octet_needs)], narrowed := true }
def WideOwnUptoSaid : Prop := wideOwnUptoRow.holds Tryd.pinned (OpenSpec.upto wideOwnSpec)

/-- 'galleylaw03.UnitsFrom', WHERE WHAT IT READS IS OF BULK AT MOST 1048576: true; the input reads as it did. -/
def unitsFromUptoRow : OpenClaim := { program := "ytcdehlnkilcgaaadoor", sum := "aeb102c5980910fc889cdc3af6d48a8035b62e95a466d2b79efb0f60c11b887c", func := "galley/galleylaw03.UnitsFrom", spec := "unitsFrom", unfollowed := true, recurses := true, named := ["galley/octet.needs", "galley/octet.spans"], apart := false, laid := [("galley/octet.spans", laid_galley_octet_spans), ("galley/octet.needs", laid_galley_octet_needs)], narrowed := true }
def UnitsFromUptoSaid : Prop := unitsFromUptoRow.holds Tryd.pinned (OpenSpec.upto unitsFromSpec)

/-- 'galleylaw03.UnitsFromExact', WHERE WHAT IT READS IS OF BULK AT MOST 1048576: true; the input reads as it did. -/
def unitsFromExactUptoRow : OpenClaim := { program := "ytcdehlnkilcgaaadoor", sum := "aeb102c5980910fc889cdc3af6d48a8035b62e95a466d2b79efb0f60c11b887c", func := "galley/galleylaw03.UnitsFromExact", spec := "unitsFromExact", unfollowed := true, recurses := true, named := ["galley/octet.needs", "galley/octet.spans"], apart := false, laid := [("galley/octet.spans", laid_galley_octet_spans), ("galley/octet.needs", laid_galley_octet_needs)], narrowed := true }
def UnitsFromExactUptoSaid : Prop := unitsFromExactUptoRow.holds Tryd.pinned (OpenSpec.upto unitsFromExactSpec)

/-- 'galleylaw03.UnitsOnly', WHERE WHAT IT READS IS OF BULK AT MOST 1048576: true; the input reads as it did. -/
def unitsOnlyUptoRow : OpenClaim := { program := "ytcdehlnkilcgaaadoor", sum := "aeb102c5980910fc889cdc3af6d48a8035b62e95a466d2b79efb0f60c11b887c", func := "galley/galleylaw03.UnitsOnly", spec := "unitsOnly", unfollowed := true, recurses := true, named := ["galley/octet.needs", "galley/octet.spans"], apart := false, laid := [("galley/octet.spans", laid_galley_octet_spans), ("galley/octet.needs", laid_galley_octet_needs)], narrowed := true }
def UnitsOnlyUptoSaid : Prop := unitsOnlyUptoRow.holds Tryd.pinned (OpenSpec.upto unitsOnlySpec)

/-- 'galleylaw03.UnitsPairs', WHERE WHAT IT READS IS OF BULK AT MOST 1048576: true; the input reads as it did. -/
def unitsPairsUptoRow : OpenClaim := { program := "ytcdehlnkilcgaaadoor", sum := "aeb102c5980910fc889cdc3af6d48a8035b62e95a466d2b79efb0f60c11b887c", func := "galley/galleylaw03.UnitsPairs", spec := "unitsPairs", unfollowed := true, recurses := true, named := ["galley/octet.needs", "galley/octet.spans"], apart := false, laid := [("galley/octet.spans", laid_galley_octet_spans), ("galley/octet.needs", laid_galley_octet_needs)], narrowed := true }
def UnitsPairsUptoSaid : Prop := unitsPairsUptoRow.holds Tryd.pinned (OpenSpec.upto unitsPairsSpec)

/-- 'galleylaw03.UnitsOwn', WHERE WHAT IT READS IS OF BULK AT MOST 1048576: true; the input reads as it did. -/
def unitsOwnUptoRow : OpenClaim := { program := "ytcdehlnkilcgaaadoor", sum := "aeb102c5980910fc889cdc3af6d48a8035b62e95a466d2b79efb0f60c11b887c", func := "galley/galleylaw03.UnitsOwn", spec := "unitsOwn", unfollowed := true, recurses := true, named := ["galley/octet.needs", "galley/octet.spans"], apart := false, laid := [("galley/octet.spans", laid_galley_octet_spans), ("galley/octet.needs", laid_galley_octet_needs)], narrowed := true }
def UnitsOwnUptoSaid : Prop := unitsOwnUptoRow.holds Tryd.pinned (OpenSpec.upto unitsOwnSpec)

/-- 'galleylaw03.UnitsBack', WHERE WHAT IT READS IS OF BULK AT MOST 1048576: true; the input reads as it did. -/
def unitsBackUptoRow : OpenClaim := { program := "ytcdehlnkilcgaaadoor", sum := "aeb102c5980910fc889cdc3af6d48a8035b62e95a466d2b79efb0f60c11b887c", func := "galley/galleylaw03.UnitsBack", spec := "unitsBack", unfollowed := true, recurses := true, named := ["galley/octet.needs", "galley/octet.spans"], apart := false, laid := [("galley/octet.spans", laid_galley_octet_spans), ("galley/octet.needs", laid_galley_octet_needs)], narrowed := true }
def UnitsBackUptoSaid : Prop := unitsBackUptoRow.holds Tryd.pinned (OpenSpec.upto unitsBackSpec)

/-- 'galleylaw32.WideBack', WHERE WHAT IT READS IS OF BULK AT MOST 1048576: true; the input reads as it did. -/
def wideBackUptoRow : OpenClaim := { program := "ytcdehlnkilcgaaadoor", sum := "aeb102c5980910fc889cdc3af6d48a8035b62e95a466d2b79efb0f60c11b887c", func := "galley/galleylaw32.WideBack", spec := "wideBack", unfollowed := true, recurses := true, named := ["galley/octet.needs", "galley/octet.spans"], apart := false, laid := [("galley/octet.spans", laid_galley_octet_spans), ("galley/octet.needs", laid_galley_octet_needs)], narrowed := true }
def WideBackUptoSaid : Prop := wideBackUptoRow.holds Tryd.pinned (OpenSpec.upto wideBackSpec)

/-- 'galleylaw32.WideTurns', WHERE WHAT IT READS IS OF BULK AT MOST 1048576: true; the input reads as it did. -/
def wideTurnsUptoRow : OpenClaim := { program := "ytcdehlnkilcgaaadoor", sum := "aeb102c5980910fc889cdc3af6d48a8035b62e95a466d2b79efb0f60c11b887c", func := "galley/galleylaw32.WideTurns", spec := "wideTurns", unfollowed := true, recurses := true, named := ["galley/octet.needs", "galley/octet.spans"], apart := false, laid := [("galley/octet.spans", laid_galley_octet_spans), ("galley/octet.needs", laid_galley_octet_needs)], narrowed := true }
def WideTurnsUptoSaid : Prop := wideTurnsUptoRow.holds Tryd.pinned (OpenSpec.upto wideTurnsSpec)

/-- 'galleylaw32.WideAnswers', WHERE WHAT IT READS IS OF BULK AT MOST 1048576: true; the input reads as it did. -/
def wideAnswersUptoRow : OpenClaim := { program := "ytcdehlnkilcgaaadoor", sum := "aeb102c5980910fc889cdc3af6d48a8035b62e95a466d2b79efb0f60c11b887c", func := "galley/galleylaw32.WideAnswers", spec := "wideAnswers", unfollowed := true, recurses := true, named := ["galley/octet.needs", "galley/octet.spans"], apart := false, laid := [("galley/octet.spans", laid_galley_octet_spans), ("galley/octet.needs", laid_galley_octet_needs)], narrowed := true }
def WideAnswersUptoSaid : Prop := wideAnswersUptoRow.holds Tryd.pinned (OpenSpec.upto wideAnswersSpec)

end Rows
end Go.Proofs.YtcdehlnkilcgaaaDoor
