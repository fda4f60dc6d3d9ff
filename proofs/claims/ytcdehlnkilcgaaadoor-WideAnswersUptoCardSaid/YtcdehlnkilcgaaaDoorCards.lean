/-
  DERIVED. GIVEN WITH THE SEED: THE CARDS: each row of YtcdehlnkilcgaaaDoorRows.lean that lists a variable, with what it lists TIED to the program's text (the seventh form; the later family's looks); each row that meets fmt, with fmt's text TOLD by the authors' own Lean function (tested against real Go, not proved from fmt's source: count such statements apart). THE CARD IS WHAT COUNTS. Prove the row's statement (the work); the ties are given (YtcdehlnkilcgaaaDoorTie.lean); close each card by the builder's one call (the guide's Derived/Test/ToyasCard.lean, 'card_holds'). Laid BY PROGRAM, IN A SANDBOX (cutbox-door.mjs). By AI agents, Wed Nov 11 2026. No macro, syntax, notation, axiom, sorry.
-/
import Derived.Test.YtcdehlnkilcgaaaDoorRows
import GoSem.ClaimSeven
namespace Go.Proofs.YtcdehlnkilcgaaaDoor
namespace Rows

/-- THE TIED CARD OF 'galleylaw03.UnitsRunes'. -/
def unitsRunesCard : Claim7 := { stood := { row := unitsRunesRow, standIns := [], harness := (true, "180b9c0123bbaba68bbb3a109d6c7f10996fcad40e2d24ab648ad481c16d0ff9"), looks := false }, kinds := [], alts := [], laidByText := true, laidKinds := [.data, .data], laidTests := true, laidLooks := .later }
def UnitsRunesCardSaid : Prop := Claim7.holds Tryd.pinned (.plain (OpenSpec.ofChange unitsRunesSpec)) unitsRunesCard

/-- THE TIED CARD OF 'galleylaw03.UnitsTo'. -/
def unitsToCard : Claim7 := { stood := { row := unitsToRow, standIns := [], harness := (true, "180b9c0123bbaba68bbb3a109d6c7f10996fcad40e2d24ab648ad481c16d0ff9"), looks := false }, kinds := [], alts := [], laidByText := true, laidKinds := [.data, .data], laidTests := true, laidLooks := .later }
def UnitsToCardSaid : Prop := Claim7.holds Tryd.pinned (.plain (OpenSpec.ofChange unitsToSpec)) unitsToCard

/-- THE TIED CARD OF 'galleylaw32.WideSwaps'. -/
def wideSwapsCard : Claim7 := { stood := { row := wideSwapsRow, standIns := [], harness := (true, "180b9c0123bbaba68bbb3a109d6c7f10996fcad40e2d24ab648ad481c16d0ff9"), looks := false }, kinds := [], alts := [], laidByText := true, laidKinds := [.data, .data], laidTests := true, laidLooks := .later }
def WideSwapsCardSaid : Prop := Claim7.holds Tryd.pinned (.plain (OpenSpec.ofChange wideSwapsSpec)) wideSwapsCard

/-- THE TIED CARD OF 'galleylaw32.WideOwn'. -/
def wideOwnCard : Claim7 := { stood := { row := wideOwnRow, standIns := [], harness := (true, "180b9c0123bbaba68bbb3a109d6c7f10996fcad40e2d24ab648ad481c16d0ff9"), looks := false }, kinds := [], alts := [], laidByText := true, laidKinds := [.data, .data], laidTests := true, laidLooks := .later }
def WideOwnCardSaid : Prop := Claim7.holds Tryd.pinned (.plain (OpenSpec.ofChange wideOwnSpec)) wideOwnCard

/-- THE TIED CARD OF 'galleylaw03.UnitsFrom'. -/
def unitsFromCard : Claim7 := { stood := { row := unitsFromRow, standIns := [], harness := (true, "180b9c0123bbaba68bbb3a109d6c7f10996fcad40e2d24ab648ad481c16d0ff9"), looks := false }, kinds := [], alts := [], laidByText := true, laidKinds := [.data, .data], laidTests := true, laidLooks := .later }
def UnitsFromCardSaid : Prop := Claim7.holds Tryd.pinned (.plain (OpenSpec.ofChange unitsFromSpec)) unitsFromCard

/-- THE TIED CARD OF 'galleylaw03.UnitsFromExact'. -/
def unitsFromExactCard : Claim7 := { stood := { row := unitsFromExactRow, standIns := [], harness := (true, "180b9c0123bbaba68bbb3a109d6c7f10996fcad40e2d24ab648ad481c16d0ff9"), looks := false }, kinds := [], alts := [], laidByText := true, laidKinds := [.data, .data], laidTests := true, laidLooks := .later }
def UnitsFromExactCardSaid : Prop := Claim7.holds Tryd.pinned (.plain (OpenSpec.ofChange unitsFromExactSpec)) unitsFromExactCard

/-- THE TIED CARD OF 'galleylaw03.UnitsOnly'. -/
def unitsOnlyCard : Claim7 := { stood := { row := unitsOnlyRow, standIns := [], harness := (true, "180b9c0123bbaba68bbb3a109d6c7f10996fcad40e2d24ab648ad481c16d0ff9"), looks := false }, kinds := [], alts := [], laidByText := true, laidKinds := [.data, .data], laidTests := true, laidLooks := .later }
def UnitsOnlyCardSaid : Prop := Claim7.holds Tryd.pinned (.plain (OpenSpec.ofChange unitsOnlySpec)) unitsOnlyCard

/-- THE TIED CARD OF 'galleylaw03.UnitsPairs'. -/
def unitsPairsCard : Claim7 := { stood := { row := unitsPairsRow, standIns := [], harness := (true, "180b9c0123bbaba68bbb3a109d6c7f10996fcad40e2d24ab648ad481c16d0ff9"), looks := false }, kinds := [], alts := [], laidByText := true, laidKinds := [.data, .data], laidTests := true, laidLooks := .later }
def UnitsPairsCardSaid : Prop := Claim7.holds Tryd.pinned (.plain (OpenSpec.ofChange unitsPairsSpec)) unitsPairsCard

/-- THE TIED CARD OF 'galleylaw03.UnitsOwn'. -/
def unitsOwnCard : Claim7 := { stood := { row := unitsOwnRow, standIns := [], harness := (true, "180b9c0123bbaba68bbb3a109d6c7f10996fcad40e2d24ab648ad481c16d0ff9"), looks := false }, kinds := [], alts := [], laidByText := true, laidKinds := [.data, .data], laidTests := true, laidLooks := .later }
def UnitsOwnCardSaid : Prop := Claim7.holds Tryd.pinned (.plain (OpenSpec.ofChange unitsOwnSpec)) unitsOwnCard

/-- THE TIED CARD OF 'galleylaw03.UnitsBack'. -/
def unitsBackCard : Claim7 := { stood := { row := unitsBackRow, standIns := [], harness := (true, "180b9c0123bbaba68bbb3a109d6c7f10996fcad40e2d24ab648ad481c16d0ff9"), looks := false }, kinds := [], alts := [], laidByText := true, laidKinds := [.data, .data], laidTests := true, laidLooks := .later }
def UnitsBackCardSaid : Prop := Claim7.holds Tryd.pinned (.plain (OpenSpec.ofChange unitsBackSpec)) unitsBackCard

/-- THE TIED CARD OF 'galleylaw32.WideBack'. -/
def wideBackCard : Claim7 := { stood := { row := wideBackRow, standIns := [], harness := (true, "180b9c0123bbaba68bbb3a109d6c7f10996fcad40e2d24ab648ad481c16d0ff9"), looks := false }, kinds := [], alts := [], laidByText := true, laidKinds := [.data, .data], laidTests := true, laidLooks := .later }
def WideBackCardSaid : Prop := Claim7.holds Tryd.pinned (.plain (OpenSpec.ofChange wideBackSpec)) wideBackCard

/-- THE TIED CARD OF 'galleylaw32.WideTurns'. -/
def wideTurnsCard : Claim7 := { stood := { row := wideTurnsRow, standIns := [], harness := (true, "180b9c0123bbaba68bbb3a109d6c7f10996fcad40e2d24ab648ad481c16d0ff9"), looks := false }, kinds := [], alts := [], laidByText := true, laidKinds := [.data, .data], laidTests := true, laidLooks := .later }
def WideTurnsCardSaid : Prop := Claim7.holds Tryd.pinned (.plain (OpenSpec.ofChange wideTurnsSpec)) wideTurnsCard

/-- THE TIED CARD OF 'galleylaw32.WideAnswers'. -/
def wideAnswersCard : Claim7 := { stood := { row := wideAnswersRow, standIns := [], harness := (true, "180b9c0123bbaba68bbb3a109d6c7f10996fcad40e2d24ab648ad481c16d0ff9"), looks := false }, kinds := [], alts := [], laidByText := true, laidKinds := [.data, .data], laidTests := true, laidLooks := .later }
def WideAnswersCardSaid : Prop := Claim7.holds Tryd.pinned (.plain (OpenSpec.ofChange wideAnswersSpec)) wideAnswersCard

/-- THE SECOND FORM's CARD OF 'galleylaw03.UnitsRunes'. -/
def unitsRunesUptoCard : Claim7 := { stood := { row := unitsRunesUptoRow, standIns := [], harness := (true, "180b9c0123bbaba68bbb3a109d6c7f10996fcad40e2d24ab648ad481c16d0ff9"), looks := false }, kinds := [], alts := [], laidByText := true, laidKinds := [.data, .data], laidTests := true, laidLooks := .later }
def UnitsRunesUptoCardSaid : Prop := Claim7.holds Tryd.pinned (.plain (OpenSpec.upto unitsRunesSpec)) unitsRunesUptoCard

/-- THE SECOND FORM's CARD OF 'galleylaw03.UnitsTo'. -/
def unitsToUptoCard : Claim7 := { stood := { row := unitsToUptoRow, standIns := [], harness := (true, "180b9c0123bbaba68bbb3a109d6c7f10996fcad40e2d24ab648ad481c16d0ff9"), looks := false }, kinds := [], alts := [], laidByText := true, laidKinds := [.data, .data], laidTests := true, laidLooks := .later }
def UnitsToUptoCardSaid : Prop := Claim7.holds Tryd.pinned (.plain (OpenSpec.upto unitsToSpec)) unitsToUptoCard

/-- THE SECOND FORM's CARD OF 'galleylaw32.WideSwaps'. -/
def wideSwapsUptoCard : Claim7 := { stood := { row := wideSwapsUptoRow, standIns := [], harness := (true, "180b9c0123bbaba68bbb3a109d6c7f10996fcad40e2d24ab648ad481c16d0ff9"), looks := false }, kinds := [], alts := [], laidByText := true, laidKinds := [.data, .data], laidTests := true, laidLooks := .later }
def WideSwapsUptoCardSaid : Prop := Claim7.holds Tryd.pinned (.plain (OpenSpec.upto wideSwapsSpec)) wideSwapsUptoCard

/-- THE SECOND FORM's CARD OF 'galleylaw32.WideOwn'. -/
def wideOwnUptoCard : Claim7 := { stood := { row := wideOwnUptoRow, standIns := [], harness := (true, "180b9c0123bbaba68bbb3a109d6c7f10996fcad40e2d24ab648ad481c16d0ff9"), looks := false }, kinds := [], alts := [], laidByText := true, laidKinds := [.data, .data], laidTests := true, laidLooks := .later }
def WideOwnUptoCardSaid : Prop := Claim7.holds Tryd.pinned (.plain (OpenSpec.upto wideOwnSpec)) wideOwnUptoCard

/-- THE SECOND FORM's CARD OF 'galleylaw03.UnitsFrom'. -/
def unitsFromUptoCard : Claim7 := { stood := { row := unitsFromUptoRow, standIns := [], harness := (true, "180b9c0123bbaba68bbb3a109d6c7f10996fcad40e2d24ab648ad481c16d0ff9"), looks := false }, kinds := [], alts := [], laidByText := true, laidKinds := [.data, .data], laidTests := true, laidLooks := .later }
def UnitsFromUptoCardSaid : Prop := Claim7.holds Tryd.pinned (.plain (OpenSpec.upto unitsFromSpec)) unitsFromUptoCard

/-- THE SECOND FORM's CARD OF 'galleylaw03.UnitsFromExact'. -/
def unitsFromExactUptoCard : Claim7 := { stood := { row := unitsFromExactUptoRow, standIns := [], harness := (true, "180b9c0123bbaba68bbb3a109d6c7f10996fcad40e2d24ab648ad481c16d0ff9"), looks := false }, kinds := [], alts := [], laidByText := true, laidKinds := [.data, .data], laidTests := true, laidLooks := .later }
def UnitsFromExactUptoCardSaid : Prop := Claim7.holds Tryd.pinned (.plain (OpenSpec.upto unitsFromExactSpec)) unitsFromExactUptoCard

/-- THE SECOND FORM's CARD OF 'galleylaw03.UnitsOnly'. -/
def unitsOnlyUptoCard : Claim7 := { stood := { row := unitsOnlyUptoRow, standIns := [], harness := (true, "180b9c0123bbaba68bbb3a109d6c7f10996fcad40e2d24ab648ad481c16d0ff9"), looks := false }, kinds := [], alts := [], laidByText := true, laidKinds := [.data, .data], laidTests := true, laidLooks := .later }
def UnitsOnlyUptoCardSaid : Prop := Claim7.holds Tryd.pinned (.plain (OpenSpec.upto unitsOnlySpec)) unitsOnlyUptoCard

/-- THE SECOND FORM's CARD OF 'galleylaw03.UnitsPairs'. -/
def unitsPairsUptoCard : Claim7 := { stood := { row := unitsPairsUptoRow, standIns := [], harness := (true, "180b9c0123bbaba68bbb3a109d6c7f10996fcad40e2d24ab648ad481c16d0ff9"), looks := false }, kinds := [], alts := [], laidByText := true, laidKinds := [.data, .data], laidTests := true, laidLooks := .later }
def UnitsPairsUptoCardSaid : Prop := Claim7.holds Tryd.pinned (.plain (OpenSpec.upto unitsPairsSpec)) unitsPairsUptoCard

/-- THE SECOND FORM's CARD OF 'galleylaw03.UnitsOwn'. -/
def unitsOwnUptoCard : Claim7 := { stood := { row := unitsOwnUptoRow, standIns := [], harness := (true, "180b9c0123bbaba68bbb3a109d6c7f10996fcad40e2d24ab648ad481c16d0ff9"), looks := false }, kinds := [], alts := [], laidByText := true, laidKinds := [.data, .data], laidTests := true, laidLooks := .later }
def UnitsOwnUptoCardSaid : Prop := Claim7.holds Tryd.pinned (.plain (OpenSpec.upto unitsOwnSpec)) unitsOwnUptoCard

/-- THE SECOND FORM's CARD OF 'galleylaw03.UnitsBack'. -/
def unitsBackUptoCard : Claim7 := { stood := { row := unitsBackUptoRow, standIns := [], harness := (true, "180b9c0123bbaba68bbb3a109d6c7f10996fcad40e2d24ab648ad481c16d0ff9"), looks := false }, kinds := [], alts := [], laidByText := true, laidKinds := [.data, .data], laidTests := true, laidLooks := .later }
def UnitsBackUptoCardSaid : Prop := Claim7.holds Tryd.pinned (.plain (OpenSpec.upto unitsBackSpec)) unitsBackUptoCard

/-- THE SECOND FORM's CARD OF 'galleylaw32.WideBack'. -/
def wideBackUptoCard : Claim7 := { stood := { row := wideBackUptoRow, standIns := [], harness := (true, "180b9c0123bbaba68bbb3a109d6c7f10996fcad40e2d24ab648ad481c16d0ff9"), looks := false }, kinds := [], alts := [], laidByText := true, laidKinds := [.data, .data], laidTests := true, laidLooks := .later }
def WideBackUptoCardSaid : Prop := Claim7.holds Tryd.pinned (.plain (OpenSpec.upto wideBackSpec)) wideBackUptoCard

/-- THE SECOND FORM's CARD OF 'galleylaw32.WideTurns'. -/
def wideTurnsUptoCard : Claim7 := { stood := { row := wideTurnsUptoRow, standIns := [], harness := (true, "180b9c0123bbaba68bbb3a109d6c7f10996fcad40e2d24ab648ad481c16d0ff9"), looks := false }, kinds := [], alts := [], laidByText := true, laidKinds := [.data, .data], laidTests := true, laidLooks := .later }
def WideTurnsUptoCardSaid : Prop := Claim7.holds Tryd.pinned (.plain (OpenSpec.upto wideTurnsSpec)) wideTurnsUptoCard

/-- THE SECOND FORM's CARD OF 'galleylaw32.WideAnswers'. -/
def wideAnswersUptoCard : Claim7 := { stood := { row := wideAnswersUptoRow, standIns := [], harness := (true, "180b9c0123bbaba68bbb3a109d6c7f10996fcad40e2d24ab648ad481c16d0ff9"), looks := false }, kinds := [], alts := [], laidByText := true, laidKinds := [.data, .data], laidTests := true, laidLooks := .later }
def WideAnswersUptoCardSaid : Prop := Claim7.holds Tryd.pinned (.plain (OpenSpec.upto wideAnswersSpec)) wideAnswersUptoCard
end Rows
end Go.Proofs.YtcdehlnkilcgaaaDoor
