/-
  DERIVED. GIVEN WITH THE SEED: THE CARDS: each row of YtaeejbmbkejjiaaGreatDoorRows.lean that lists a variable, with what it lists TIED to the program's text (the seventh form; the later family's looks); each row that meets fmt, with fmt's text TOLD by the authors' own Lean function (tested against real Go, not proved from fmt's source: count such statements apart). THE CARD IS WHAT COUNTS. Prove the row's statement (the work); the ties are given (YtaeejbmbkejjiaaGreatDoorTie.lean); close each card by the builder's one call (the guide's Derived/Test/ToyasCard.lean, 'card_holds'). Laid BY PROGRAM, IN A SANDBOX (cutbox-door.mjs). By AI agents, Wed Nov 11 2026. No macro, syntax, notation, axiom, sorry.
-/
import Derived.Test.YtaeejbmbkejjiaaGreatDoorRows
import GoSem.ClaimSeven
namespace Go.Proofs.YtaeejbmbkejjiaaGreatDoor
namespace Rows

/-- THE TIED CARD OF 'voklaw7.MemberLess'. -/
def memberLessCard : Claim7 := { stood := { row := memberLessRow, standIns := [], harness := (true, "2b1e6671f902abe88b0dd3b9da46e7b301570900db131899fed912885a23f80b"), looks := true }, kinds := [], alts := [], laidByText := true, laidKinds := [.data, .data, .data, .data, .sentinel, .sentinel, .pinned], laidTests := true, laidLooks := .later }
def MemberLessCardSaid : Prop := Claim7.holds Tryz.pinned (.plain (OpenSpec.ofChange memberLessSpec)) memberLessCard

/-- THE TIED CARD OF 'voklaw7.MemberMoves'. -/
def memberMovesCard : Claim7 := { stood := { row := memberMovesRow, standIns := [], harness := (true, "2b1e6671f902abe88b0dd3b9da46e7b301570900db131899fed912885a23f80b"), looks := true }, kinds := [], alts := [], laidByText := true, laidKinds := [.data, .data, .data, .data, .sentinel, .sentinel, .pinned], laidTests := true, laidLooks := .later }
def MemberMovesCardSaid : Prop := Claim7.holds Tryz.pinned (.plain (OpenSpec.ofChange memberMovesSpec)) memberMovesCard

/-- THE TIED CARD OF 'voklaw7.MemberEnds'. -/
def memberEndsCard : Claim7 := { stood := { row := memberEndsRow, standIns := [], harness := (true, "2b1e6671f902abe88b0dd3b9da46e7b301570900db131899fed912885a23f80b"), looks := true }, kinds := [], alts := [], laidByText := true, laidKinds := [.data, .data, .data, .data, .sentinel, .sentinel, .pinned], laidTests := true, laidLooks := .later }
def MemberEndsCardSaid : Prop := Claim7.holds Tryz.pinned (.plain (OpenSpec.ofChange memberEndsSpec)) memberEndsCard

/-- THE TIED CARD OF 'voklaw7.MemberPlaces'. -/
def memberPlacesCard : Claim7 := { stood := { row := memberPlacesRow, standIns := [], harness := (true, "2b1e6671f902abe88b0dd3b9da46e7b301570900db131899fed912885a23f80b"), looks := true }, kinds := [], alts := [], laidByText := true, laidKinds := [.data, .data, .data, .data, .sentinel, .sentinel, .pinned], laidTests := true, laidLooks := .later }
def MemberPlacesCardSaid : Prop := Claim7.holds Tryz.pinned (.plain (OpenSpec.ofChange memberPlacesSpec)) memberPlacesCard

/-- THE TIED CARD OF 'voklaw7.MemberBounds'. -/
def memberBoundsCard : Claim7 := { stood := { row := memberBoundsRow, standIns := [], harness := (true, "2b1e6671f902abe88b0dd3b9da46e7b301570900db131899fed912885a23f80b"), looks := true }, kinds := [], alts := [], laidByText := true, laidKinds := [.data, .data, .data, .data, .sentinel, .sentinel, .pinned], laidTests := true, laidLooks := .later }
def MemberBoundsCardSaid : Prop := Claim7.holds Tryz.pinned (.plain (OpenSpec.ofChange memberBoundsSpec)) memberBoundsCard

/-- THE TIED CARD OF 'voklaw7.MemberOnes'. -/
def memberOnesCard : Claim7 := { stood := { row := memberOnesRow, standIns := [], harness := (true, "2b1e6671f902abe88b0dd3b9da46e7b301570900db131899fed912885a23f80b"), looks := true }, kinds := [], alts := [], laidByText := true, laidKinds := [.data, .data, .data, .data, .sentinel, .sentinel, .pinned], laidTests := true, laidLooks := .later }
def MemberOnesCardSaid : Prop := Claim7.holds Tryz.pinned (.plain (OpenSpec.ofChange memberOnesSpec)) memberOnesCard

/-- THE SECOND FORM's CARD OF 'voklaw7.MemberLess'. -/
def memberLessUptoCard : Claim7 := { stood := { row := memberLessUptoRow, standIns := [], harness := (true, "2b1e6671f902abe88b0dd3b9da46e7b301570900db131899fed912885a23f80b"), looks := true }, kinds := [], alts := [], laidByText := true, laidKinds := [.data, .data, .data, .data, .sentinel, .sentinel, .pinned], laidTests := true, laidLooks := .later }
def MemberLessUptoCardSaid : Prop := Claim7.holds Tryz.pinned (.plain (OpenSpec.upto memberLessSpec)) memberLessUptoCard

/-- THE SECOND FORM's CARD OF 'voklaw7.MemberMoves'. -/
def memberMovesUptoCard : Claim7 := { stood := { row := memberMovesUptoRow, standIns := [], harness := (true, "2b1e6671f902abe88b0dd3b9da46e7b301570900db131899fed912885a23f80b"), looks := true }, kinds := [], alts := [], laidByText := true, laidKinds := [.data, .data, .data, .data, .sentinel, .sentinel, .pinned], laidTests := true, laidLooks := .later }
def MemberMovesUptoCardSaid : Prop := Claim7.holds Tryz.pinned (.plain (OpenSpec.upto memberMovesSpec)) memberMovesUptoCard

/-- THE SECOND FORM's CARD OF 'voklaw7.MemberEnds'. -/
def memberEndsUptoCard : Claim7 := { stood := { row := memberEndsUptoRow, standIns := [], harness := (true, "2b1e6671f902abe88b0dd3b9da46e7b301570900db131899fed912885a23f80b"), looks := true }, kinds := [], alts := [], laidByText := true, laidKinds := [.data, .data, .data, .data, .sentinel, .sentinel, .pinned], laidTests := true, laidLooks := .later }
def MemberEndsUptoCardSaid : Prop := Claim7.holds Tryz.pinned (.plain (OpenSpec.upto memberEndsSpec)) memberEndsUptoCard

/-- THE SECOND FORM's CARD OF 'voklaw7.MemberPlaces'. -/
def memberPlacesUptoCard : Claim7 := { stood := { row := memberPlacesUptoRow, standIns := [], harness := (true, "2b1e6671f902abe88b0dd3b9da46e7b301570900db131899fed912885a23f80b"), looks := true }, kinds := [], alts := [], laidByText := true, laidKinds := [.data, .data, .data, .data, .sentinel, .sentinel, .pinned], laidTests := true, laidLooks := .later }
def MemberPlacesUptoCardSaid : Prop := Claim7.holds Tryz.pinned (.plain (OpenSpec.upto memberPlacesSpec)) memberPlacesUptoCard

/-- THE SECOND FORM's CARD OF 'voklaw7.MemberBounds'. -/
def memberBoundsUptoCard : Claim7 := { stood := { row := memberBoundsUptoRow, standIns := [], harness := (true, "2b1e6671f902abe88b0dd3b9da46e7b301570900db131899fed912885a23f80b"), looks := true }, kinds := [], alts := [], laidByText := true, laidKinds := [.data, .data, .data, .data, .sentinel, .sentinel, .pinned], laidTests := true, laidLooks := .later }
def MemberBoundsUptoCardSaid : Prop := Claim7.holds Tryz.pinned (.plain (OpenSpec.upto memberBoundsSpec)) memberBoundsUptoCard

/-- THE SECOND FORM's CARD OF 'voklaw7.MemberOnes'. -/
def memberOnesUptoCard : Claim7 := { stood := { row := memberOnesUptoRow, standIns := [], harness := (true, "2b1e6671f902abe88b0dd3b9da46e7b301570900db131899fed912885a23f80b"), looks := true }, kinds := [], alts := [], laidByText := true, laidKinds := [.data, .data, .data, .data, .sentinel, .sentinel, .pinned], laidTests := true, laidLooks := .later }
def MemberOnesUptoCardSaid : Prop := Claim7.holds Tryz.pinned (.plain (OpenSpec.upto memberOnesSpec)) memberOnesUptoCard
end Rows
end Go.Proofs.YtaeejbmbkejjiaaGreatDoor
