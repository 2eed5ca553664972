/-
  DERIVED. GIVEN WITH THE SEED: THE CARDS: each row of YtegmfagkklekaaaGreatDoorRows.lean that lists a variable, with what it lists TIED to the program's text (the seventh form; the later family's looks); each row that meets fmt, with fmt's text TOLD by the authors' own Lean function (tested against real Go, not proved from fmt's source: count such statements apart). THE CARD IS WHAT COUNTS. Prove the row's statement (the work); the ties are given (YtegmfagkklekaaaGreatDoorTie.lean); close each card by the builder's one call (the guide's Derived/Test/ToyasCard.lean, 'card_holds'). Laid BY PROGRAM, IN A SANDBOX (cutbox-door.mjs). By AI agents, Wed Nov 11 2026. No macro, syntax, notation, axiom, sorry.
-/
import Derived.Test.YtegmfagkklekaaaGreatDoorRows
import GoSem.ClaimSeven
namespace Go.Proofs.YtegmfagkklekaaaGreatDoor
namespace Rows

/-- THE TIED CARD OF 'voklaw5.RuleWrong'. -/
def ruleWrongCard : Claim7 := { stood := { row := ruleWrongRow, standIns := [], harness := (true, "2d4e9089a18d3a884e08fcad597689afa3df117523170fa810e864dc10872dcc"), looks := true }, kinds := [], alts := [], laidByText := true, laidKinds := [.data, .data, .data, .data, .sentinel, .sentinel, .pinned], laidTests := true, laidLooks := .later }
def RuleWrongCardSaid : Prop := Claim7.holds Tryz.pinned (.plain (OpenSpec.ofChange ruleWrongSpec)) ruleWrongCard

/-- THE TIED CARD OF 'voklaw8.ExpandLists'. -/
def expandListsCard : Claim7 := { stood := { row := expandListsRow, standIns := [], harness := (true, "2d4e9089a18d3a884e08fcad597689afa3df117523170fa810e864dc10872dcc"), looks := true }, kinds := [], alts := [], laidByText := true, laidKinds := [.data, .data, .data, .data, .sentinel, .sentinel, .pinned], laidTests := true, laidLooks := .later }
def ExpandListsCardSaid : Prop := Claim7.holds Tryz.pinned (.plain (OpenSpec.ofChange expandListsSpec)) expandListsCard

/-- THE TIED CARD OF 'voklaw9.MeetSpans'. -/
def meetSpansCard : Claim7 := { stood := { row := meetSpansRow, standIns := [], harness := (true, "2d4e9089a18d3a884e08fcad597689afa3df117523170fa810e864dc10872dcc"), looks := true }, kinds := [], alts := [], laidByText := true, laidKinds := [.data, .data, .data, .data, .sentinel, .sentinel, .pinned], laidTests := true, laidLooks := .later }
def MeetSpansCardSaid : Prop := Claim7.holds Tryz.pinned (.plain (OpenSpec.ofChange meetSpansSpec)) meetSpansCard

/-- THE TIED CARD OF 'voklaw9.MeetDates'. -/
def meetDatesCard : Claim7 := { stood := { row := meetDatesRow, standIns := [], harness := (true, "2d4e9089a18d3a884e08fcad597689afa3df117523170fa810e864dc10872dcc"), looks := true }, kinds := [], alts := [], laidByText := true, laidKinds := [.data, .data, .data, .data, .sentinel, .sentinel, .pinned], laidTests := true, laidLooks := .later }
def MeetDatesCardSaid : Prop := Claim7.holds Tryz.pinned (.plain (OpenSpec.ofChange meetDatesSpec)) meetDatesCard

/-- THE TIED CARD OF 'voklaw9.MeetShifts'. -/
def meetShiftsCard : Claim7 := { stood := { row := meetShiftsRow, standIns := [], harness := (true, "2d4e9089a18d3a884e08fcad597689afa3df117523170fa810e864dc10872dcc"), looks := true }, kinds := [], alts := [], laidByText := true, laidKinds := [.data, .data, .data, .data, .sentinel, .sentinel, .pinned], laidTests := true, laidLooks := .later }
def MeetShiftsCardSaid : Prop := Claim7.holds Tryz.pinned (.plain (OpenSpec.ofChange meetShiftsSpec)) meetShiftsCard

/-- THE TIED CARD OF 'voklaw9.MeetTexts'. -/
def meetTextsCard : Claim7 := { stood := { row := meetTextsRow, standIns := [], harness := (true, "2d4e9089a18d3a884e08fcad597689afa3df117523170fa810e864dc10872dcc"), looks := true }, kinds := [], alts := [], laidByText := true, laidKinds := [.data, .data, .data, .data, .sentinel, .sentinel, .pinned], laidTests := true, laidLooks := .later }
def MeetTextsCardSaid : Prop := Claim7.holds Tryz.pinned (.plain (OpenSpec.ofChange meetTextsSpec)) meetTextsCard

/-- THE SECOND FORM's CARD OF 'voklaw5.RuleWrong'. -/
def ruleWrongUptoCard : Claim7 := { stood := { row := ruleWrongUptoRow, standIns := [], harness := (true, "2d4e9089a18d3a884e08fcad597689afa3df117523170fa810e864dc10872dcc"), looks := true }, kinds := [], alts := [], laidByText := true, laidKinds := [.data, .data, .data, .data, .sentinel, .sentinel, .pinned], laidTests := true, laidLooks := .later }
def RuleWrongUptoCardSaid : Prop := Claim7.holds Tryz.pinned (.plain (OpenSpec.upto ruleWrongSpec)) ruleWrongUptoCard

/-- THE SECOND FORM's CARD OF 'voklaw8.ExpandLists'. -/
def expandListsUptoCard : Claim7 := { stood := { row := expandListsUptoRow, standIns := [], harness := (true, "2d4e9089a18d3a884e08fcad597689afa3df117523170fa810e864dc10872dcc"), looks := true }, kinds := [], alts := [], laidByText := true, laidKinds := [.data, .data, .data, .data, .sentinel, .sentinel, .pinned], laidTests := true, laidLooks := .later }
def ExpandListsUptoCardSaid : Prop := Claim7.holds Tryz.pinned (.plain (OpenSpec.upto expandListsSpec)) expandListsUptoCard

/-- THE SECOND FORM's CARD OF 'voklaw9.MeetSpans'. -/
def meetSpansUptoCard : Claim7 := { stood := { row := meetSpansUptoRow, standIns := [], harness := (true, "2d4e9089a18d3a884e08fcad597689afa3df117523170fa810e864dc10872dcc"), looks := true }, kinds := [], alts := [], laidByText := true, laidKinds := [.data, .data, .data, .data, .sentinel, .sentinel, .pinned], laidTests := true, laidLooks := .later }
def MeetSpansUptoCardSaid : Prop := Claim7.holds Tryz.pinned (.plain (OpenSpec.upto meetSpansSpec)) meetSpansUptoCard

/-- THE SECOND FORM's CARD OF 'voklaw9.MeetDates'. -/
def meetDatesUptoCard : Claim7 := { stood := { row := meetDatesUptoRow, standIns := [], harness := (true, "2d4e9089a18d3a884e08fcad597689afa3df117523170fa810e864dc10872dcc"), looks := true }, kinds := [], alts := [], laidByText := true, laidKinds := [.data, .data, .data, .data, .sentinel, .sentinel, .pinned], laidTests := true, laidLooks := .later }
def MeetDatesUptoCardSaid : Prop := Claim7.holds Tryz.pinned (.plain (OpenSpec.upto meetDatesSpec)) meetDatesUptoCard

/-- THE SECOND FORM's CARD OF 'voklaw9.MeetShifts'. -/
def meetShiftsUptoCard : Claim7 := { stood := { row := meetShiftsUptoRow, standIns := [], harness := (true, "2d4e9089a18d3a884e08fcad597689afa3df117523170fa810e864dc10872dcc"), looks := true }, kinds := [], alts := [], laidByText := true, laidKinds := [.data, .data, .data, .data, .sentinel, .sentinel, .pinned], laidTests := true, laidLooks := .later }
def MeetShiftsUptoCardSaid : Prop := Claim7.holds Tryz.pinned (.plain (OpenSpec.upto meetShiftsSpec)) meetShiftsUptoCard

/-- THE SECOND FORM's CARD OF 'voklaw9.MeetTexts'. -/
def meetTextsUptoCard : Claim7 := { stood := { row := meetTextsUptoRow, standIns := [], harness := (true, "2d4e9089a18d3a884e08fcad597689afa3df117523170fa810e864dc10872dcc"), looks := true }, kinds := [], alts := [], laidByText := true, laidKinds := [.data, .data, .data, .data, .sentinel, .sentinel, .pinned], laidTests := true, laidLooks := .later }
def MeetTextsUptoCardSaid : Prop := Claim7.holds Tryz.pinned (.plain (OpenSpec.upto meetTextsSpec)) meetTextsUptoCard
end Rows
end Go.Proofs.YtegmfagkklekaaaGreatDoor
