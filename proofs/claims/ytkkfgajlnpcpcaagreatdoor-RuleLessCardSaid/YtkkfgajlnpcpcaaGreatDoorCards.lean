/-
  DERIVED. GIVEN WITH THE SEED: THE CARDS: each row of YtkkfgajlnpcpcaaGreatDoorRows.lean that lists a variable, with what it lists TIED to the program's text (the seventh form; the later family's looks); each row that meets fmt, with fmt's text TOLD by the authors' own Lean function (tested against real Go, not proved from fmt's source: count such statements apart). THE CARD IS WHAT COUNTS. Prove the row's statement (the work); the ties are given (YtkkfgajlnpcpcaaGreatDoorTie.lean); close each card by the builder's one call (the guide's Derived/Test/ToyasCard.lean, 'card_holds'). Laid BY PROGRAM, IN A SANDBOX (cutbox-door.mjs). By AI agents, Wed Nov 11 2026. No macro, syntax, notation, axiom, sorry.
-/
import Derived.Test.YtkkfgajlnpcpcaaGreatDoorRows
import GoSem.ClaimSeven
namespace Go.Proofs.YtkkfgajlnpcpcaaGreatDoor
namespace Rows

/-- THE TIED CARD OF 'voklaw5.RuleParses'. -/
def ruleParsesCard : Claim7 := { stood := { row := ruleParsesRow, standIns := [], harness := (true, "87fb6d62456727f661a45cc7952c6b5813a6ead585437e8c88f435f4adefaac7"), looks := true }, kinds := [], alts := [], laidByText := true, laidKinds := [.data, .data, .data, .data, .sentinel, .sentinel, .pinned], laidTests := true, laidLooks := .later }
def RuleParsesCardSaid : Prop := Claim7.holds Tryz.pinned (.plain (OpenSpec.ofChange ruleParsesSpec)) ruleParsesCard

/-- THE TIED CARD OF 'voklaw5.RuleLists'. -/
def ruleListsCard : Claim7 := { stood := { row := ruleListsRow, standIns := [], harness := (true, "87fb6d62456727f661a45cc7952c6b5813a6ead585437e8c88f435f4adefaac7"), looks := true }, kinds := [], alts := [], laidByText := true, laidKinds := [.data, .data, .data, .data, .sentinel, .sentinel, .pinned], laidTests := true, laidLooks := .later }
def RuleListsCardSaid : Prop := Claim7.holds Tryz.pinned (.plain (OpenSpec.ofChange ruleListsSpec)) ruleListsCard

/-- THE TIED CARD OF 'voklaw5.RuleTurns'. -/
def ruleTurnsCard : Claim7 := { stood := { row := ruleTurnsRow, standIns := [], harness := (true, "87fb6d62456727f661a45cc7952c6b5813a6ead585437e8c88f435f4adefaac7"), looks := true }, kinds := [], alts := [], laidByText := true, laidKinds := [.data, .data, .data, .data, .sentinel, .sentinel, .pinned], laidTests := true, laidLooks := .later }
def RuleTurnsCardSaid : Prop := Claim7.holds Tryz.pinned (.plain (OpenSpec.ofChange ruleTurnsSpec)) ruleTurnsCard

/-- THE TIED CARD OF 'voklaw5.RuleNames'. -/
def ruleNamesCard : Claim7 := { stood := { row := ruleNamesRow, standIns := [], harness := (true, "87fb6d62456727f661a45cc7952c6b5813a6ead585437e8c88f435f4adefaac7"), looks := true }, kinds := [], alts := [], laidByText := true, laidKinds := [.data, .data, .data, .data, .sentinel, .sentinel, .pinned], laidTests := true, laidLooks := .later }
def RuleNamesCardSaid : Prop := Claim7.holds Tryz.pinned (.plain (OpenSpec.ofChange ruleNamesSpec)) ruleNamesCard

/-- THE TIED CARD OF 'voklaw5.RulePrints'. -/
def rulePrintsCard : Claim7 := { stood := { row := rulePrintsRow, standIns := [], harness := (true, "87fb6d62456727f661a45cc7952c6b5813a6ead585437e8c88f435f4adefaac7"), looks := true }, kinds := [], alts := [], laidByText := true, laidKinds := [.data, .data, .data, .data, .sentinel, .sentinel, .pinned], laidTests := true, laidLooks := .later }
def RulePrintsCardSaid : Prop := Claim7.holds Tryz.pinned (.plain (OpenSpec.ofChange rulePrintsSpec)) rulePrintsCard

/-- THE TIED CARD OF 'voklaw5.RuleBack'. -/
def ruleBackCard : Claim7 := { stood := { row := ruleBackRow, standIns := [], harness := (true, "87fb6d62456727f661a45cc7952c6b5813a6ead585437e8c88f435f4adefaac7"), looks := true }, kinds := [], alts := [], laidByText := true, laidKinds := [.data, .data, .data, .data, .sentinel, .sentinel, .pinned], laidTests := true, laidLooks := .later }
def RuleBackCardSaid : Prop := Claim7.holds Tryz.pinned (.plain (OpenSpec.ofChange ruleBackSpec)) ruleBackCard

/-- THE TIED CARD OF 'voklaw5.RuleWrong'. -/
def ruleWrongCard : Claim7 := { stood := { row := ruleWrongRow, standIns := [], harness := (true, "87fb6d62456727f661a45cc7952c6b5813a6ead585437e8c88f435f4adefaac7"), looks := true }, kinds := [], alts := [], laidByText := true, laidKinds := [.data, .data, .data, .data, .sentinel, .sentinel, .pinned], laidTests := true, laidLooks := .later }
def RuleWrongCardSaid : Prop := Claim7.holds Tryz.pinned (.plain (OpenSpec.ofChange ruleWrongSpec)) ruleWrongCard

/-- THE TIED CARD OF 'voklaw5.RuleLess'. -/
def ruleLessCard : Claim7 := { stood := { row := ruleLessRow, standIns := [], harness := (true, "87fb6d62456727f661a45cc7952c6b5813a6ead585437e8c88f435f4adefaac7"), looks := true }, kinds := [], alts := [], laidByText := true, laidKinds := [.data, .data, .data, .data, .sentinel, .sentinel, .pinned], laidTests := true, laidLooks := .later }
def RuleLessCardSaid : Prop := Claim7.holds Tryz.pinned (.plain (OpenSpec.ofChange ruleLessSpec)) ruleLessCard

/-- THE TIED CARD OF 'voklaw5.RuleAlike'. -/
def ruleAlikeCard : Claim7 := { stood := { row := ruleAlikeRow, standIns := [], harness := (true, "87fb6d62456727f661a45cc7952c6b5813a6ead585437e8c88f435f4adefaac7"), looks := true }, kinds := [], alts := [], laidByText := true, laidKinds := [.data, .data, .data, .data, .sentinel, .sentinel, .pinned], laidTests := true, laidLooks := .later }
def RuleAlikeCardSaid : Prop := Claim7.holds Tryz.pinned (.plain (OpenSpec.ofChange ruleAlikeSpec)) ruleAlikeCard

/-- THE SECOND FORM's CARD OF 'voklaw5.RuleParses'. -/
def ruleParsesUptoCard : Claim7 := { stood := { row := ruleParsesUptoRow, standIns := [], harness := (true, "87fb6d62456727f661a45cc7952c6b5813a6ead585437e8c88f435f4adefaac7"), looks := true }, kinds := [], alts := [], laidByText := true, laidKinds := [.data, .data, .data, .data, .sentinel, .sentinel, .pinned], laidTests := true, laidLooks := .later }
def RuleParsesUptoCardSaid : Prop := Claim7.holds Tryz.pinned (.plain (OpenSpec.upto ruleParsesSpec)) ruleParsesUptoCard

/-- THE SECOND FORM's CARD OF 'voklaw5.RuleLists'. -/
def ruleListsUptoCard : Claim7 := { stood := { row := ruleListsUptoRow, standIns := [], harness := (true, "87fb6d62456727f661a45cc7952c6b5813a6ead585437e8c88f435f4adefaac7"), looks := true }, kinds := [], alts := [], laidByText := true, laidKinds := [.data, .data, .data, .data, .sentinel, .sentinel, .pinned], laidTests := true, laidLooks := .later }
def RuleListsUptoCardSaid : Prop := Claim7.holds Tryz.pinned (.plain (OpenSpec.upto ruleListsSpec)) ruleListsUptoCard

/-- THE SECOND FORM's CARD OF 'voklaw5.RuleTurns'. -/
def ruleTurnsUptoCard : Claim7 := { stood := { row := ruleTurnsUptoRow, standIns := [], harness := (true, "87fb6d62456727f661a45cc7952c6b5813a6ead585437e8c88f435f4adefaac7"), looks := true }, kinds := [], alts := [], laidByText := true, laidKinds := [.data, .data, .data, .data, .sentinel, .sentinel, .pinned], laidTests := true, laidLooks := .later }
def RuleTurnsUptoCardSaid : Prop := Claim7.holds Tryz.pinned (.plain (OpenSpec.upto ruleTurnsSpec)) ruleTurnsUptoCard

/-- THE SECOND FORM's CARD OF 'voklaw5.RuleNames'. -/
def ruleNamesUptoCard : Claim7 := { stood := { row := ruleNamesUptoRow, standIns := [], harness := (true, "87fb6d62456727f661a45cc7952c6b5813a6ead585437e8c88f435f4adefaac7"), looks := true }, kinds := [], alts := [], laidByText := true, laidKinds := [.data, .data, .data, .data, .sentinel, .sentinel, .pinned], laidTests := true, laidLooks := .later }
def RuleNamesUptoCardSaid : Prop := Claim7.holds Tryz.pinned (.plain (OpenSpec.upto ruleNamesSpec)) ruleNamesUptoCard

/-- THE SECOND FORM's CARD OF 'voklaw5.RulePrints'. -/
def rulePrintsUptoCard : Claim7 := { stood := { row := rulePrintsUptoRow, standIns := [], harness := (true, "87fb6d62456727f661a45cc7952c6b5813a6ead585437e8c88f435f4adefaac7"), looks := true }, kinds := [], alts := [], laidByText := true, laidKinds := [.data, .data, .data, .data, .sentinel, .sentinel, .pinned], laidTests := true, laidLooks := .later }
def RulePrintsUptoCardSaid : Prop := Claim7.holds Tryz.pinned (.plain (OpenSpec.upto rulePrintsSpec)) rulePrintsUptoCard

/-- THE SECOND FORM's CARD OF 'voklaw5.RuleBack'. -/
def ruleBackUptoCard : Claim7 := { stood := { row := ruleBackUptoRow, standIns := [], harness := (true, "87fb6d62456727f661a45cc7952c6b5813a6ead585437e8c88f435f4adefaac7"), looks := true }, kinds := [], alts := [], laidByText := true, laidKinds := [.data, .data, .data, .data, .sentinel, .sentinel, .pinned], laidTests := true, laidLooks := .later }
def RuleBackUptoCardSaid : Prop := Claim7.holds Tryz.pinned (.plain (OpenSpec.upto ruleBackSpec)) ruleBackUptoCard

/-- THE SECOND FORM's CARD OF 'voklaw5.RuleWrong'. -/
def ruleWrongUptoCard : Claim7 := { stood := { row := ruleWrongUptoRow, standIns := [], harness := (true, "87fb6d62456727f661a45cc7952c6b5813a6ead585437e8c88f435f4adefaac7"), looks := true }, kinds := [], alts := [], laidByText := true, laidKinds := [.data, .data, .data, .data, .sentinel, .sentinel, .pinned], laidTests := true, laidLooks := .later }
def RuleWrongUptoCardSaid : Prop := Claim7.holds Tryz.pinned (.plain (OpenSpec.upto ruleWrongSpec)) ruleWrongUptoCard

/-- THE SECOND FORM's CARD OF 'voklaw5.RuleLess'. -/
def ruleLessUptoCard : Claim7 := { stood := { row := ruleLessUptoRow, standIns := [], harness := (true, "87fb6d62456727f661a45cc7952c6b5813a6ead585437e8c88f435f4adefaac7"), looks := true }, kinds := [], alts := [], laidByText := true, laidKinds := [.data, .data, .data, .data, .sentinel, .sentinel, .pinned], laidTests := true, laidLooks := .later }
def RuleLessUptoCardSaid : Prop := Claim7.holds Tryz.pinned (.plain (OpenSpec.upto ruleLessSpec)) ruleLessUptoCard

/-- THE SECOND FORM's CARD OF 'voklaw5.RuleAlike'. -/
def ruleAlikeUptoCard : Claim7 := { stood := { row := ruleAlikeUptoRow, standIns := [], harness := (true, "87fb6d62456727f661a45cc7952c6b5813a6ead585437e8c88f435f4adefaac7"), looks := true }, kinds := [], alts := [], laidByText := true, laidKinds := [.data, .data, .data, .data, .sentinel, .sentinel, .pinned], laidTests := true, laidLooks := .later }
def RuleAlikeUptoCardSaid : Prop := Claim7.holds Tryz.pinned (.plain (OpenSpec.upto ruleAlikeSpec)) ruleAlikeUptoCard
end Rows
end Go.Proofs.YtkkfgajlnpcpcaaGreatDoor
