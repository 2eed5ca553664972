/-
  DERIVED. GIVEN WITH THE SEED: THE CARDS: each row of YtnjabmimijhjjaaGreatDoorRows.lean that lists a variable, with what it lists TIED to the program's text (the seventh form; the later family's looks); each row that meets fmt, with fmt's text TOLD by the authors' own Lean function (tested against real Go, not proved from fmt's source: count such statements apart). THE CARD IS WHAT COUNTS. Prove the row's statement (the work); the ties are given (YtnjabmimijhjjaaGreatDoorTie.lean); close each card by the builder's one call (the guide's Derived/Test/ToyasCard.lean, 'card_holds'). Laid BY PROGRAM, IN A SANDBOX (cutbox-door.mjs). By AI agents, Wed Nov 11 2026. No macro, syntax, notation, axiom, sorry.
-/
import Derived.Test.YtnjabmimijhjjaaGreatDoorRows
import GoSem.ClaimSeven
namespace Go.Proofs.YtnjabmimijhjjaaGreatDoor
namespace Rows

/-- THE TIED CARD OF 'voklaw6.DaysParts'. -/
def daysPartsCard : Claim7 := { stood := { row := daysPartsRow, standIns := [], harness := (true, "125a62e8307e53e8e7965f9ff3785a4ab15bc1386a2bbad689a59acec83c52d3"), looks := true }, kinds := [], alts := [], laidByText := true, laidKinds := [.data, .data, .data, .data, .sentinel, .sentinel, .pinned], laidTests := true, laidLooks := .later }
def DaysPartsCardSaid : Prop := Claim7.holds Tryz.pinned (.plain (OpenSpec.ofChange daysPartsSpec)) daysPartsCard

/-- THE TIED CARD OF 'voklaw6.DaysPlain'. -/
def daysPlainCard : Claim7 := { stood := { row := daysPlainRow, standIns := [], harness := (true, "125a62e8307e53e8e7965f9ff3785a4ab15bc1386a2bbad689a59acec83c52d3"), looks := true }, kinds := [], alts := [], laidByText := true, laidKinds := [.data, .data, .data, .data, .sentinel, .sentinel, .pinned], laidTests := true, laidLooks := .later }
def DaysPlainCardSaid : Prop := Claim7.holds Tryz.pinned (.plain (OpenSpec.ofChange daysPlainSpec)) daysPlainCard

/-- THE TIED CARD OF 'voklaw6.DaysWeeks'. -/
def daysWeeksCard : Claim7 := { stood := { row := daysWeeksRow, standIns := [], harness := (true, "125a62e8307e53e8e7965f9ff3785a4ab15bc1386a2bbad689a59acec83c52d3"), looks := true }, kinds := [], alts := [], laidByText := true, laidKinds := [.data, .data, .data, .data, .sentinel, .sentinel, .pinned], laidTests := true, laidLooks := .later }
def DaysWeeksCardSaid : Prop := Claim7.holds Tryz.pinned (.plain (OpenSpec.ofChange daysWeeksSpec)) daysWeeksCard

/-- THE TIED CARD OF 'voklaw6.DaysNths'. -/
def daysNthsCard : Claim7 := { stood := { row := daysNthsRow, standIns := [], harness := (true, "125a62e8307e53e8e7965f9ff3785a4ab15bc1386a2bbad689a59acec83c52d3"), looks := true }, kinds := [], alts := [], laidByText := true, laidKinds := [.data, .data, .data, .data, .sentinel, .sentinel, .pinned], laidTests := true, laidLooks := .later }
def DaysNthsCardSaid : Prop := Claim7.holds Tryz.pinned (.plain (OpenSpec.ofChange daysNthsSpec)) daysNthsCard

/-- THE TIED CARD OF 'voklaw6.DaysTimes'. -/
def daysTimesCard : Claim7 := { stood := { row := daysTimesRow, standIns := [], harness := (true, "125a62e8307e53e8e7965f9ff3785a4ab15bc1386a2bbad689a59acec83c52d3"), looks := true }, kinds := [], alts := [], laidByText := true, laidKinds := [.data, .data, .data, .data, .sentinel, .sentinel, .pinned], laidTests := true, laidLooks := .later }
def DaysTimesCardSaid : Prop := Claim7.holds Tryz.pinned (.plain (OpenSpec.ofChange daysTimesSpec)) daysTimesCard

/-- THE TIED CARD OF 'voklaw6.DaysPeriods'. -/
def daysPeriodsCard : Claim7 := { stood := { row := daysPeriodsRow, standIns := [], harness := (true, "125a62e8307e53e8e7965f9ff3785a4ab15bc1386a2bbad689a59acec83c52d3"), looks := true }, kinds := [], alts := [], laidByText := true, laidKinds := [.data, .data, .data, .data, .sentinel, .sentinel, .pinned], laidTests := true, laidLooks := .later }
def DaysPeriodsCardSaid : Prop := Claim7.holds Tryz.pinned (.plain (OpenSpec.ofChange daysPeriodsSpec)) daysPeriodsCard

/-- THE TIED CARD OF 'voklaw6.DaysRise'. -/
def daysRiseCard : Claim7 := { stood := { row := daysRiseRow, standIns := [], harness := (true, "125a62e8307e53e8e7965f9ff3785a4ab15bc1386a2bbad689a59acec83c52d3"), looks := true }, kinds := [], alts := [], laidByText := true, laidKinds := [.data, .data, .data, .data, .sentinel, .sentinel, .pinned], laidTests := true, laidLooks := .later }
def DaysRiseCardSaid : Prop := Claim7.holds Tryz.pinned (.plain (OpenSpec.ofChange daysRiseSpec)) daysRiseCard

/-- THE SECOND FORM's CARD OF 'voklaw6.DaysParts'. -/
def daysPartsUptoCard : Claim7 := { stood := { row := daysPartsUptoRow, standIns := [], harness := (true, "125a62e8307e53e8e7965f9ff3785a4ab15bc1386a2bbad689a59acec83c52d3"), looks := true }, kinds := [], alts := [], laidByText := true, laidKinds := [.data, .data, .data, .data, .sentinel, .sentinel, .pinned], laidTests := true, laidLooks := .later }
def DaysPartsUptoCardSaid : Prop := Claim7.holds Tryz.pinned (.plain (OpenSpec.upto daysPartsSpec)) daysPartsUptoCard

/-- THE SECOND FORM's CARD OF 'voklaw6.DaysPlain'. -/
def daysPlainUptoCard : Claim7 := { stood := { row := daysPlainUptoRow, standIns := [], harness := (true, "125a62e8307e53e8e7965f9ff3785a4ab15bc1386a2bbad689a59acec83c52d3"), looks := true }, kinds := [], alts := [], laidByText := true, laidKinds := [.data, .data, .data, .data, .sentinel, .sentinel, .pinned], laidTests := true, laidLooks := .later }
def DaysPlainUptoCardSaid : Prop := Claim7.holds Tryz.pinned (.plain (OpenSpec.upto daysPlainSpec)) daysPlainUptoCard

/-- THE SECOND FORM's CARD OF 'voklaw6.DaysWeeks'. -/
def daysWeeksUptoCard : Claim7 := { stood := { row := daysWeeksUptoRow, standIns := [], harness := (true, "125a62e8307e53e8e7965f9ff3785a4ab15bc1386a2bbad689a59acec83c52d3"), looks := true }, kinds := [], alts := [], laidByText := true, laidKinds := [.data, .data, .data, .data, .sentinel, .sentinel, .pinned], laidTests := true, laidLooks := .later }
def DaysWeeksUptoCardSaid : Prop := Claim7.holds Tryz.pinned (.plain (OpenSpec.upto daysWeeksSpec)) daysWeeksUptoCard

/-- THE SECOND FORM's CARD OF 'voklaw6.DaysNths'. -/
def daysNthsUptoCard : Claim7 := { stood := { row := daysNthsUptoRow, standIns := [], harness := (true, "125a62e8307e53e8e7965f9ff3785a4ab15bc1386a2bbad689a59acec83c52d3"), looks := true }, kinds := [], alts := [], laidByText := true, laidKinds := [.data, .data, .data, .data, .sentinel, .sentinel, .pinned], laidTests := true, laidLooks := .later }
def DaysNthsUptoCardSaid : Prop := Claim7.holds Tryz.pinned (.plain (OpenSpec.upto daysNthsSpec)) daysNthsUptoCard

/-- THE SECOND FORM's CARD OF 'voklaw6.DaysTimes'. -/
def daysTimesUptoCard : Claim7 := { stood := { row := daysTimesUptoRow, standIns := [], harness := (true, "125a62e8307e53e8e7965f9ff3785a4ab15bc1386a2bbad689a59acec83c52d3"), looks := true }, kinds := [], alts := [], laidByText := true, laidKinds := [.data, .data, .data, .data, .sentinel, .sentinel, .pinned], laidTests := true, laidLooks := .later }
def DaysTimesUptoCardSaid : Prop := Claim7.holds Tryz.pinned (.plain (OpenSpec.upto daysTimesSpec)) daysTimesUptoCard

/-- THE SECOND FORM's CARD OF 'voklaw6.DaysPeriods'. -/
def daysPeriodsUptoCard : Claim7 := { stood := { row := daysPeriodsUptoRow, standIns := [], harness := (true, "125a62e8307e53e8e7965f9ff3785a4ab15bc1386a2bbad689a59acec83c52d3"), looks := true }, kinds := [], alts := [], laidByText := true, laidKinds := [.data, .data, .data, .data, .sentinel, .sentinel, .pinned], laidTests := true, laidLooks := .later }
def DaysPeriodsUptoCardSaid : Prop := Claim7.holds Tryz.pinned (.plain (OpenSpec.upto daysPeriodsSpec)) daysPeriodsUptoCard

/-- THE SECOND FORM's CARD OF 'voklaw6.DaysRise'. -/
def daysRiseUptoCard : Claim7 := { stood := { row := daysRiseUptoRow, standIns := [], harness := (true, "125a62e8307e53e8e7965f9ff3785a4ab15bc1386a2bbad689a59acec83c52d3"), looks := true }, kinds := [], alts := [], laidByText := true, laidKinds := [.data, .data, .data, .data, .sentinel, .sentinel, .pinned], laidTests := true, laidLooks := .later }
def DaysRiseUptoCardSaid : Prop := Claim7.holds Tryz.pinned (.plain (OpenSpec.upto daysRiseSpec)) daysRiseUptoCard
end Rows
end Go.Proofs.YtnjabmimijhjjaaGreatDoor
