/-
  DERIVED. GIVEN WITH THE SEED: THE CARDS: each row of YtlfiapleboklcaaDoorRows.lean that lists a variable, with what it lists TIED to the program's text (the seventh form; the later family's looks); each row that meets fmt, with fmt's text TOLD by the authors' own Lean function (tested against real Go, not proved from fmt's source: count such statements apart). THE CARD IS WHAT COUNTS. Prove the row's statement (the work); the ties are given (YtlfiapleboklcaaDoorTie.lean); close each card by the builder's one call (the guide's Derived/Test/ToyasCard.lean, 'card_holds'). Laid BY PROGRAM, IN A SANDBOX (cutbox-door.mjs). By AI agents, Wed Nov 11 2026. No macro, syntax, notation, axiom, sorry.
-/
import Derived.Test.YtlfiapleboklcaaDoorRows
import GoSem.ClaimSeven
namespace Go.Proofs.YtlfiapleboklcaaDoor
namespace Rows

/-- THE TIED CARD OF 'voklaw4.FoldSplits'. -/
def foldSplitsCard : Claim7 := { stood := { row := foldSplitsRow, standIns := [], harness := (true, "4f260ba68c959cd11ef9be0bd9b1540085fca77e9b4973af4a9f41b132d5d872"), looks := false }, kinds := [], alts := [], laidByText := true, laidKinds := [.data, .pinned], laidTests := true, laidLooks := .later }
def FoldSplitsCardSaid : Prop := Claim7.holds Tryd.pinned (.plain (OpenSpec.ofChange foldSplitsSpec)) foldSplitsCard

/-- THE TIED CARD OF 'voklaw4.FoldCuts'. -/
def foldCutsCard : Claim7 := { stood := { row := foldCutsRow, standIns := [], harness := (true, "4f260ba68c959cd11ef9be0bd9b1540085fca77e9b4973af4a9f41b132d5d872"), looks := false }, kinds := [], alts := [], laidByText := true, laidKinds := [.data, .pinned], laidTests := true, laidLooks := .later }
def FoldCutsCardSaid : Prop := Claim7.holds Tryd.pinned (.plain (OpenSpec.ofChange foldCutsSpec)) foldCutsCard

/-- THE TIED CARD OF 'voklaw4.FoldNames'. -/
def foldNamesCard : Claim7 := { stood := { row := foldNamesRow, standIns := [], harness := (true, "4f260ba68c959cd11ef9be0bd9b1540085fca77e9b4973af4a9f41b132d5d872"), looks := false }, kinds := [], alts := [], laidByText := true, laidKinds := [.data, .pinned], laidTests := true, laidLooks := .later }
def FoldNamesCardSaid : Prop := Claim7.holds Tryd.pinned (.plain (OpenSpec.ofChange foldNamesSpec)) foldNamesCard

/-- THE TIED CARD OF 'voklaw4.FoldEnds'. -/
def foldEndsCard : Claim7 := { stood := { row := foldEndsRow, standIns := [], harness := (true, "4f260ba68c959cd11ef9be0bd9b1540085fca77e9b4973af4a9f41b132d5d872"), looks := false }, kinds := [], alts := [], laidByText := true, laidKinds := [.data, .pinned], laidTests := true, laidLooks := .later }
def FoldEndsCardSaid : Prop := Claim7.holds Tryd.pinned (.plain (OpenSpec.ofChange foldEndsSpec)) foldEndsCard

/-- THE TIED CARD OF 'voklaw4.FoldWrong'. -/
def foldWrongCard : Claim7 := { stood := { row := foldWrongRow, standIns := [], harness := (true, "4f260ba68c959cd11ef9be0bd9b1540085fca77e9b4973af4a9f41b132d5d872"), looks := false }, kinds := [], alts := [], laidByText := true, laidKinds := [.data, .pinned], laidTests := true, laidLooks := .later }
def FoldWrongCardSaid : Prop := Claim7.holds Tryd.pinned (.plain (OpenSpec.ofChange foldWrongSpec)) foldWrongCard

/-- THE TIED CARD OF 'voklaw4.FoldJoins'. -/
def foldJoinsCard : Claim7 := { stood := { row := foldJoinsRow, standIns := [], harness := (true, "4f260ba68c959cd11ef9be0bd9b1540085fca77e9b4973af4a9f41b132d5d872"), looks := false }, kinds := [], alts := [], laidByText := true, laidKinds := [.data, .pinned], laidTests := true, laidLooks := .later }
def FoldJoinsCardSaid : Prop := Claim7.holds Tryd.pinned (.plain (OpenSpec.ofChange foldJoinsSpec)) foldJoinsCard

/-- THE TIED CARD OF 'voklaw4.FoldBack'. -/
def foldBackCard : Claim7 := { stood := { row := foldBackRow, standIns := [], harness := (true, "4f260ba68c959cd11ef9be0bd9b1540085fca77e9b4973af4a9f41b132d5d872"), looks := false }, kinds := [], alts := [], laidByText := true, laidKinds := [.data, .pinned], laidTests := true, laidLooks := .later }
def FoldBackCardSaid : Prop := Claim7.holds Tryd.pinned (.plain (OpenSpec.ofChange foldBackSpec)) foldBackCard

/-- THE SECOND FORM's CARD OF 'voklaw4.FoldSplits'. -/
def foldSplitsUptoCard : Claim7 := { stood := { row := foldSplitsUptoRow, standIns := [], harness := (true, "4f260ba68c959cd11ef9be0bd9b1540085fca77e9b4973af4a9f41b132d5d872"), looks := false }, kinds := [], alts := [], laidByText := true, laidKinds := [.data, .pinned], laidTests := true, laidLooks := .later }
def FoldSplitsUptoCardSaid : Prop := Claim7.holds Tryd.pinned (.plain (OpenSpec.upto foldSplitsSpec)) foldSplitsUptoCard

/-- THE SECOND FORM's CARD OF 'voklaw4.FoldCuts'. -/
def foldCutsUptoCard : Claim7 := { stood := { row := foldCutsUptoRow, standIns := [], harness := (true, "4f260ba68c959cd11ef9be0bd9b1540085fca77e9b4973af4a9f41b132d5d872"), looks := false }, kinds := [], alts := [], laidByText := true, laidKinds := [.data, .pinned], laidTests := true, laidLooks := .later }
def FoldCutsUptoCardSaid : Prop := Claim7.holds Tryd.pinned (.plain (OpenSpec.upto foldCutsSpec)) foldCutsUptoCard

/-- THE SECOND FORM's CARD OF 'voklaw4.FoldNames'. -/
def foldNamesUptoCard : Claim7 := { stood := { row := foldNamesUptoRow, standIns := [], harness := (true, "4f260ba68c959cd11ef9be0bd9b1540085fca77e9b4973af4a9f41b132d5d872"), looks := false }, kinds := [], alts := [], laidByText := true, laidKinds := [.data, .pinned], laidTests := true, laidLooks := .later }
def FoldNamesUptoCardSaid : Prop := Claim7.holds Tryd.pinned (.plain (OpenSpec.upto foldNamesSpec)) foldNamesUptoCard

/-- THE SECOND FORM's CARD OF 'voklaw4.FoldEnds'. -/
def foldEndsUptoCard : Claim7 := { stood := { row := foldEndsUptoRow, standIns := [], harness := (true, "4f260ba68c959cd11ef9be0bd9b1540085fca77e9b4973af4a9f41b132d5d872"), looks := false }, kinds := [], alts := [], laidByText := true, laidKinds := [.data, .pinned], laidTests := true, laidLooks := .later }
def FoldEndsUptoCardSaid : Prop := Claim7.holds Tryd.pinned (.plain (OpenSpec.upto foldEndsSpec)) foldEndsUptoCard

/-- THE SECOND FORM's CARD OF 'voklaw4.FoldWrong'. -/
def foldWrongUptoCard : Claim7 := { stood := { row := foldWrongUptoRow, standIns := [], harness := (true, "4f260ba68c959cd11ef9be0bd9b1540085fca77e9b4973af4a9f41b132d5d872"), looks := false }, kinds := [], alts := [], laidByText := true, laidKinds := [.data, .pinned], laidTests := true, laidLooks := .later }
def FoldWrongUptoCardSaid : Prop := Claim7.holds Tryd.pinned (.plain (OpenSpec.upto foldWrongSpec)) foldWrongUptoCard

/-- THE SECOND FORM's CARD OF 'voklaw4.FoldJoins'. -/
def foldJoinsUptoCard : Claim7 := { stood := { row := foldJoinsUptoRow, standIns := [], harness := (true, "4f260ba68c959cd11ef9be0bd9b1540085fca77e9b4973af4a9f41b132d5d872"), looks := false }, kinds := [], alts := [], laidByText := true, laidKinds := [.data, .pinned], laidTests := true, laidLooks := .later }
def FoldJoinsUptoCardSaid : Prop := Claim7.holds Tryd.pinned (.plain (OpenSpec.upto foldJoinsSpec)) foldJoinsUptoCard

/-- THE SECOND FORM's CARD OF 'voklaw4.FoldBack'. -/
def foldBackUptoCard : Claim7 := { stood := { row := foldBackUptoRow, standIns := [], harness := (true, "4f260ba68c959cd11ef9be0bd9b1540085fca77e9b4973af4a9f41b132d5d872"), looks := false }, kinds := [], alts := [], laidByText := true, laidKinds := [.data, .pinned], laidTests := true, laidLooks := .later }
def FoldBackUptoCardSaid : Prop := Claim7.holds Tryd.pinned (.plain (OpenSpec.upto foldBackSpec)) foldBackUptoCard
end Rows
end Go.Proofs.YtlfiapleboklcaaDoor
