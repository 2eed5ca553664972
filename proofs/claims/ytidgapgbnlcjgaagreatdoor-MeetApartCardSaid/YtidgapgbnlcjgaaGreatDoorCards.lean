/-
  DERIVED. GIVEN WITH THE SEED: THE CARDS: each row of YtidgapgbnlcjgaaGreatDoorRows.lean that lists a variable, with what it lists TIED to the program's text (the seventh form; the later family's looks); each row that meets fmt, with fmt's text TOLD by the authors' own Lean function (tested against real Go, not proved from fmt's source: count such statements apart). THE CARD IS WHAT COUNTS. Prove the row's statement (the work); the ties are given (YtidgapgbnlcjgaaGreatDoorTie.lean); close each card by the builder's one call (the guide's Derived/Test/ToyasCard.lean, 'card_holds'). Laid BY PROGRAM, IN A SANDBOX (cutbox-door.mjs). By AI agents, Wed Nov 11 2026. No macro, syntax, notation, axiom, sorry.
-/
import Derived.Test.YtidgapgbnlcjgaaGreatDoorRows
import GoSem.ClaimSeven
namespace Go.Proofs.YtidgapgbnlcjgaaGreatDoor
namespace Rows

/-- THE TIED CARD OF 'voklaw9.MeetSpans'. -/
def meetSpansCard : Claim7 := { stood := { row := meetSpansRow, standIns := [], harness := (true, "bdef6dc6b6b1c776f2abc478e29bdbded675e24a276b3f24f1ecbb7f9b80187f"), looks := true }, kinds := [], alts := [], laidByText := true, laidKinds := [.data, .data, .data, .data, .sentinel, .sentinel, .pinned], laidTests := true, laidLooks := .later }
def MeetSpansCardSaid : Prop := Claim7.holds Tryz.pinned (.plain (OpenSpec.ofChange meetSpansSpec)) meetSpansCard

/-- THE TIED CARD OF 'voklaw9.MeetApart'. -/
def meetApartCard : Claim7 := { stood := { row := meetApartRow, standIns := [], harness := (true, "bdef6dc6b6b1c776f2abc478e29bdbded675e24a276b3f24f1ecbb7f9b80187f"), looks := true }, kinds := [], alts := [], laidByText := true, laidKinds := [.data, .data, .data, .data, .sentinel, .sentinel, .pinned], laidTests := true, laidLooks := .later }
def MeetApartCardSaid : Prop := Claim7.holds Tryz.pinned (.plain (OpenSpec.ofChange meetApartSpec)) meetApartCard

/-- THE TIED CARD OF 'voklaw9.MeetDates'. -/
def meetDatesCard : Claim7 := { stood := { row := meetDatesRow, standIns := [], harness := (true, "bdef6dc6b6b1c776f2abc478e29bdbded675e24a276b3f24f1ecbb7f9b80187f"), looks := true }, kinds := [], alts := [], laidByText := true, laidKinds := [.data, .data, .data, .data, .sentinel, .sentinel, .pinned], laidTests := true, laidLooks := .later }
def MeetDatesCardSaid : Prop := Claim7.holds Tryz.pinned (.plain (OpenSpec.ofChange meetDatesSpec)) meetDatesCard

/-- THE TIED CARD OF 'voklaw9.MeetShifts'. -/
def meetShiftsCard : Claim7 := { stood := { row := meetShiftsRow, standIns := [], harness := (true, "bdef6dc6b6b1c776f2abc478e29bdbded675e24a276b3f24f1ecbb7f9b80187f"), looks := true }, kinds := [], alts := [], laidByText := true, laidKinds := [.data, .data, .data, .data, .sentinel, .sentinel, .pinned], laidTests := true, laidLooks := .later }
def MeetShiftsCardSaid : Prop := Claim7.holds Tryz.pinned (.plain (OpenSpec.ofChange meetShiftsSpec)) meetShiftsCard

/-- THE TIED CARD OF 'voklaw9.MeetLate'. -/
def meetLateCard : Claim7 := { stood := { row := meetLateRow, standIns := [], harness := (true, "bdef6dc6b6b1c776f2abc478e29bdbded675e24a276b3f24f1ecbb7f9b80187f"), looks := true }, kinds := [], alts := [], laidByText := true, laidKinds := [.data, .data, .data, .data, .sentinel, .sentinel, .pinned], laidTests := true, laidLooks := .later }
def MeetLateCardSaid : Prop := Claim7.holds Tryz.pinned (.plain (OpenSpec.ofChange meetLateSpec)) meetLateCard

/-- THE TIED CARD OF 'voklaw9.MeetLines'. -/
def meetLinesCard : Claim7 := { stood := { row := meetLinesRow, standIns := [], harness := (true, "bdef6dc6b6b1c776f2abc478e29bdbded675e24a276b3f24f1ecbb7f9b80187f"), looks := true }, kinds := [], alts := [], laidByText := true, laidKinds := [.data, .data, .data, .data, .sentinel, .sentinel, .pinned], laidTests := true, laidLooks := .later }
def MeetLinesCardSaid : Prop := Claim7.holds Tryz.pinned (.plain (OpenSpec.ofChange meetLinesSpec)) meetLinesCard

/-- THE TIED CARD OF 'voklaw9.MeetTexts'. -/
def meetTextsCard : Claim7 := { stood := { row := meetTextsRow, standIns := [], harness := (true, "bdef6dc6b6b1c776f2abc478e29bdbded675e24a276b3f24f1ecbb7f9b80187f"), looks := true }, kinds := [], alts := [], laidByText := true, laidKinds := [.data, .data, .data, .data, .sentinel, .sentinel, .pinned], laidTests := true, laidLooks := .later }
def MeetTextsCardSaid : Prop := Claim7.holds Tryz.pinned (.plain (OpenSpec.ofChange meetTextsSpec)) meetTextsCard

/-- THE TIED CARD OF 'voklaw9.MeetBack'. -/
def meetBackCard : Claim7 := { stood := { row := meetBackRow, standIns := [], harness := (true, "bdef6dc6b6b1c776f2abc478e29bdbded675e24a276b3f24f1ecbb7f9b80187f"), looks := true }, kinds := [], alts := [], laidByText := true, laidKinds := [.data, .data, .data, .data, .sentinel, .sentinel, .pinned], laidTests := true, laidLooks := .later }
def MeetBackCardSaid : Prop := Claim7.holds Tryz.pinned (.plain (OpenSpec.ofChange meetBackSpec)) meetBackCard

/-- THE TIED CARD OF 'voklaw9.MeetAlike'. -/
def meetAlikeCard : Claim7 := { stood := { row := meetAlikeRow, standIns := [], harness := (true, "bdef6dc6b6b1c776f2abc478e29bdbded675e24a276b3f24f1ecbb7f9b80187f"), looks := true }, kinds := [], alts := [], laidByText := true, laidKinds := [.data, .data, .data, .data, .sentinel, .sentinel, .pinned], laidTests := true, laidLooks := .later }
def MeetAlikeCardSaid : Prop := Claim7.holds Tryz.pinned (.plain (OpenSpec.ofChange meetAlikeSpec)) meetAlikeCard

/-- THE SECOND FORM's CARD OF 'voklaw9.MeetSpans'. -/
def meetSpansUptoCard : Claim7 := { stood := { row := meetSpansUptoRow, standIns := [], harness := (true, "bdef6dc6b6b1c776f2abc478e29bdbded675e24a276b3f24f1ecbb7f9b80187f"), looks := true }, kinds := [], alts := [], laidByText := true, laidKinds := [.data, .data, .data, .data, .sentinel, .sentinel, .pinned], laidTests := true, laidLooks := .later }
def MeetSpansUptoCardSaid : Prop := Claim7.holds Tryz.pinned (.plain (OpenSpec.upto meetSpansSpec)) meetSpansUptoCard

/-- THE SECOND FORM's CARD OF 'voklaw9.MeetApart'. -/
def meetApartUptoCard : Claim7 := { stood := { row := meetApartUptoRow, standIns := [], harness := (true, "bdef6dc6b6b1c776f2abc478e29bdbded675e24a276b3f24f1ecbb7f9b80187f"), looks := true }, kinds := [], alts := [], laidByText := true, laidKinds := [.data, .data, .data, .data, .sentinel, .sentinel, .pinned], laidTests := true, laidLooks := .later }
def MeetApartUptoCardSaid : Prop := Claim7.holds Tryz.pinned (.plain (OpenSpec.upto meetApartSpec)) meetApartUptoCard

/-- THE SECOND FORM's CARD OF 'voklaw9.MeetDates'. -/
def meetDatesUptoCard : Claim7 := { stood := { row := meetDatesUptoRow, standIns := [], harness := (true, "bdef6dc6b6b1c776f2abc478e29bdbded675e24a276b3f24f1ecbb7f9b80187f"), looks := true }, kinds := [], alts := [], laidByText := true, laidKinds := [.data, .data, .data, .data, .sentinel, .sentinel, .pinned], laidTests := true, laidLooks := .later }
def MeetDatesUptoCardSaid : Prop := Claim7.holds Tryz.pinned (.plain (OpenSpec.upto meetDatesSpec)) meetDatesUptoCard

/-- THE SECOND FORM's CARD OF 'voklaw9.MeetShifts'. -/
def meetShiftsUptoCard : Claim7 := { stood := { row := meetShiftsUptoRow, standIns := [], harness := (true, "bdef6dc6b6b1c776f2abc478e29bdbded675e24a276b3f24f1ecbb7f9b80187f"), looks := true }, kinds := [], alts := [], laidByText := true, laidKinds := [.data, .data, .data, .data, .sentinel, .sentinel, .pinned], laidTests := true, laidLooks := .later }
def MeetShiftsUptoCardSaid : Prop := Claim7.holds Tryz.pinned (.plain (OpenSpec.upto meetShiftsSpec)) meetShiftsUptoCard

/-- THE SECOND FORM's CARD OF 'voklaw9.MeetLate'. -/
def meetLateUptoCard : Claim7 := { stood := { row := meetLateUptoRow, standIns := [], harness := (true, "bdef6dc6b6b1c776f2abc478e29bdbded675e24a276b3f24f1ecbb7f9b80187f"), looks := true }, kinds := [], alts := [], laidByText := true, laidKinds := [.data, .data, .data, .data, .sentinel, .sentinel, .pinned], laidTests := true, laidLooks := .later }
def MeetLateUptoCardSaid : Prop := Claim7.holds Tryz.pinned (.plain (OpenSpec.upto meetLateSpec)) meetLateUptoCard

/-- THE SECOND FORM's CARD OF 'voklaw9.MeetLines'. -/
def meetLinesUptoCard : Claim7 := { stood := { row := meetLinesUptoRow, standIns := [], harness := (true, "bdef6dc6b6b1c776f2abc478e29bdbded675e24a276b3f24f1ecbb7f9b80187f"), looks := true }, kinds := [], alts := [], laidByText := true, laidKinds := [.data, .data, .data, .data, .sentinel, .sentinel, .pinned], laidTests := true, laidLooks := .later }
def MeetLinesUptoCardSaid : Prop := Claim7.holds Tryz.pinned (.plain (OpenSpec.upto meetLinesSpec)) meetLinesUptoCard

/-- THE SECOND FORM's CARD OF 'voklaw9.MeetTexts'. -/
def meetTextsUptoCard : Claim7 := { stood := { row := meetTextsUptoRow, standIns := [], harness := (true, "bdef6dc6b6b1c776f2abc478e29bdbded675e24a276b3f24f1ecbb7f9b80187f"), looks := true }, kinds := [], alts := [], laidByText := true, laidKinds := [.data, .data, .data, .data, .sentinel, .sentinel, .pinned], laidTests := true, laidLooks := .later }
def MeetTextsUptoCardSaid : Prop := Claim7.holds Tryz.pinned (.plain (OpenSpec.upto meetTextsSpec)) meetTextsUptoCard

/-- THE SECOND FORM's CARD OF 'voklaw9.MeetBack'. -/
def meetBackUptoCard : Claim7 := { stood := { row := meetBackUptoRow, standIns := [], harness := (true, "bdef6dc6b6b1c776f2abc478e29bdbded675e24a276b3f24f1ecbb7f9b80187f"), looks := true }, kinds := [], alts := [], laidByText := true, laidKinds := [.data, .data, .data, .data, .sentinel, .sentinel, .pinned], laidTests := true, laidLooks := .later }
def MeetBackUptoCardSaid : Prop := Claim7.holds Tryz.pinned (.plain (OpenSpec.upto meetBackSpec)) meetBackUptoCard

/-- THE SECOND FORM's CARD OF 'voklaw9.MeetAlike'. -/
def meetAlikeUptoCard : Claim7 := { stood := { row := meetAlikeUptoRow, standIns := [], harness := (true, "bdef6dc6b6b1c776f2abc478e29bdbded675e24a276b3f24f1ecbb7f9b80187f"), looks := true }, kinds := [], alts := [], laidByText := true, laidKinds := [.data, .data, .data, .data, .sentinel, .sentinel, .pinned], laidTests := true, laidLooks := .later }
def MeetAlikeUptoCardSaid : Prop := Claim7.holds Tryz.pinned (.plain (OpenSpec.upto meetAlikeSpec)) meetAlikeUptoCard
end Rows
end Go.Proofs.YtidgapgbnlcjgaaGreatDoor
