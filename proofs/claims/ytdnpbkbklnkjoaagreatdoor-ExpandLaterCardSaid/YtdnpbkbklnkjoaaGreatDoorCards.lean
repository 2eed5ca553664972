/-
  DERIVED. GIVEN WITH THE SEED: THE CARDS: each row of YtdnpbkbklnkjoaaGreatDoorRows.lean that lists a variable, with what it lists TIED to the program's text (the seventh form; the later family's looks); each row that meets fmt, with fmt's text TOLD by the authors' own Lean function (tested against real Go, not proved from fmt's source: count such statements apart). THE CARD IS WHAT COUNTS. Prove the row's statement (the work); the ties are given (YtdnpbkbklnkjoaaGreatDoorTie.lean); close each card by the builder's one call (the guide's Derived/Test/ToyasCard.lean, 'card_holds'). Laid BY PROGRAM, IN A SANDBOX (cutbox-door.mjs). By AI agents, Wed Nov 11 2026. No macro, syntax, notation, axiom, sorry.
-/
import Derived.Test.YtdnpbkbklnkjoaaGreatDoorRows
import GoSem.ClaimSeven
namespace Go.Proofs.YtdnpbkbklnkjoaaGreatDoor
namespace Rows

/-- THE TIED CARD OF 'voklaw8.ExpandFronts'. -/
def expandFrontsCard : Claim7 := { stood := { row := expandFrontsRow, standIns := [], harness := (true, "5624d5b10f0d73d8a006e467e5d904ae6d469fdce41a96eda4326a21a54192ad"), looks := true }, kinds := [], alts := [], laidByText := true, laidKinds := [.data, .data, .data, .data, .sentinel, .sentinel, .pinned], laidTests := true, laidLooks := .later }
def ExpandFrontsCardSaid : Prop := Claim7.holds Tryz.pinned (.plain (OpenSpec.ofChange expandFrontsSpec)) expandFrontsCard

/-- THE TIED CARD OF 'voklaw8.ExpandEvery'. -/
def expandEveryCard : Claim7 := { stood := { row := expandEveryRow, standIns := [], harness := (true, "5624d5b10f0d73d8a006e467e5d904ae6d469fdce41a96eda4326a21a54192ad"), looks := true }, kinds := [], alts := [], laidByText := true, laidKinds := [.data, .data, .data, .data, .sentinel, .sentinel, .pinned], laidTests := true, laidLooks := .later }
def ExpandEveryCardSaid : Prop := Claim7.holds Tryz.pinned (.plain (OpenSpec.ofChange expandEverySpec)) expandEveryCard

/-- THE TIED CARD OF 'voklaw8.ExpandUntil'. -/
def expandUntilCard : Claim7 := { stood := { row := expandUntilRow, standIns := [], harness := (true, "5624d5b10f0d73d8a006e467e5d904ae6d469fdce41a96eda4326a21a54192ad"), looks := true }, kinds := [], alts := [], laidByText := true, laidKinds := [.data, .data, .data, .data, .sentinel, .sentinel, .pinned], laidTests := true, laidLooks := .later }
def ExpandUntilCardSaid : Prop := Claim7.holds Tryz.pinned (.plain (OpenSpec.ofChange expandUntilSpec)) expandUntilCard

/-- THE TIED CARD OF 'voklaw8.ExpandLater'. -/
def expandLaterCard : Claim7 := { stood := { row := expandLaterRow, standIns := [], harness := (true, "5624d5b10f0d73d8a006e467e5d904ae6d469fdce41a96eda4326a21a54192ad"), looks := true }, kinds := [], alts := [], laidByText := true, laidKinds := [.data, .data, .data, .data, .sentinel, .sentinel, .pinned], laidTests := true, laidLooks := .later }
def ExpandLaterCardSaid : Prop := Claim7.holds Tryz.pinned (.plain (OpenSpec.ofChange expandLaterSpec)) expandLaterCard

/-- THE TIED CARD OF 'voklaw8.ExpandMost'. -/
def expandMostCard : Claim7 := { stood := { row := expandMostRow, standIns := [], harness := (true, "5624d5b10f0d73d8a006e467e5d904ae6d469fdce41a96eda4326a21a54192ad"), looks := true }, kinds := [], alts := [], laidByText := true, laidKinds := [.data, .data, .data, .data, .sentinel, .sentinel, .pinned], laidTests := true, laidLooks := .later }
def ExpandMostCardSaid : Prop := Claim7.holds Tryz.pinned (.plain (OpenSpec.ofChange expandMostSpec)) expandMostCard

/-- THE TIED CARD OF 'voklaw8.ExpandMembers'. -/
def expandMembersCard : Claim7 := { stood := { row := expandMembersRow, standIns := [], harness := (true, "5624d5b10f0d73d8a006e467e5d904ae6d469fdce41a96eda4326a21a54192ad"), looks := true }, kinds := [], alts := [], laidByText := true, laidKinds := [.data, .data, .data, .data, .sentinel, .sentinel, .pinned], laidTests := true, laidLooks := .later }
def ExpandMembersCardSaid : Prop := Claim7.holds Tryz.pinned (.plain (OpenSpec.ofChange expandMembersSpec)) expandMembersCard

/-- THE TIED CARD OF 'voklaw8.ExpandNext'. -/
def expandNextCard : Claim7 := { stood := { row := expandNextRow, standIns := [], harness := (true, "5624d5b10f0d73d8a006e467e5d904ae6d469fdce41a96eda4326a21a54192ad"), looks := true }, kinds := [], alts := [], laidByText := true, laidKinds := [.data, .data, .data, .data, .sentinel, .sentinel, .pinned], laidTests := true, laidLooks := .later }
def ExpandNextCardSaid : Prop := Claim7.holds Tryz.pinned (.plain (OpenSpec.ofChange expandNextSpec)) expandNextCard

/-- THE TIED CARD OF 'voklaw8.ExpandLists'. -/
def expandListsCard : Claim7 := { stood := { row := expandListsRow, standIns := [], harness := (true, "5624d5b10f0d73d8a006e467e5d904ae6d469fdce41a96eda4326a21a54192ad"), looks := true }, kinds := [], alts := [], laidByText := true, laidKinds := [.data, .data, .data, .data, .sentinel, .sentinel, .pinned], laidTests := true, laidLooks := .later }
def ExpandListsCardSaid : Prop := Claim7.holds Tryz.pinned (.plain (OpenSpec.ofChange expandListsSpec)) expandListsCard

/-- THE SECOND FORM's CARD OF 'voklaw8.ExpandFronts'. -/
def expandFrontsUptoCard : Claim7 := { stood := { row := expandFrontsUptoRow, standIns := [], harness := (true, "5624d5b10f0d73d8a006e467e5d904ae6d469fdce41a96eda4326a21a54192ad"), looks := true }, kinds := [], alts := [], laidByText := true, laidKinds := [.data, .data, .data, .data, .sentinel, .sentinel, .pinned], laidTests := true, laidLooks := .later }
def ExpandFrontsUptoCardSaid : Prop := Claim7.holds Tryz.pinned (.plain (OpenSpec.upto expandFrontsSpec)) expandFrontsUptoCard

/-- THE SECOND FORM's CARD OF 'voklaw8.ExpandEvery'. -/
def expandEveryUptoCard : Claim7 := { stood := { row := expandEveryUptoRow, standIns := [], harness := (true, "5624d5b10f0d73d8a006e467e5d904ae6d469fdce41a96eda4326a21a54192ad"), looks := true }, kinds := [], alts := [], laidByText := true, laidKinds := [.data, .data, .data, .data, .sentinel, .sentinel, .pinned], laidTests := true, laidLooks := .later }
def ExpandEveryUptoCardSaid : Prop := Claim7.holds Tryz.pinned (.plain (OpenSpec.upto expandEverySpec)) expandEveryUptoCard

/-- THE SECOND FORM's CARD OF 'voklaw8.ExpandUntil'. -/
def expandUntilUptoCard : Claim7 := { stood := { row := expandUntilUptoRow, standIns := [], harness := (true, "5624d5b10f0d73d8a006e467e5d904ae6d469fdce41a96eda4326a21a54192ad"), looks := true }, kinds := [], alts := [], laidByText := true, laidKinds := [.data, .data, .data, .data, .sentinel, .sentinel, .pinned], laidTests := true, laidLooks := .later }
def ExpandUntilUptoCardSaid : Prop := Claim7.holds Tryz.pinned (.plain (OpenSpec.upto expandUntilSpec)) expandUntilUptoCard

/-- THE SECOND FORM's CARD OF 'voklaw8.ExpandLater'. -/
def expandLaterUptoCard : Claim7 := { stood := { row := expandLaterUptoRow, standIns := [], harness := (true, "5624d5b10f0d73d8a006e467e5d904ae6d469fdce41a96eda4326a21a54192ad"), looks := true }, kinds := [], alts := [], laidByText := true, laidKinds := [.data, .data, .data, .data, .sentinel, .sentinel, .pinned], laidTests := true, laidLooks := .later }
def ExpandLaterUptoCardSaid : Prop := Claim7.holds Tryz.pinned (.plain (OpenSpec.upto expandLaterSpec)) expandLaterUptoCard

/-- THE SECOND FORM's CARD OF 'voklaw8.ExpandMost'. -/
def expandMostUptoCard : Claim7 := { stood := { row := expandMostUptoRow, standIns := [], harness := (true, "5624d5b10f0d73d8a006e467e5d904ae6d469fdce41a96eda4326a21a54192ad"), looks := true }, kinds := [], alts := [], laidByText := true, laidKinds := [.data, .data, .data, .data, .sentinel, .sentinel, .pinned], laidTests := true, laidLooks := .later }
def ExpandMostUptoCardSaid : Prop := Claim7.holds Tryz.pinned (.plain (OpenSpec.upto expandMostSpec)) expandMostUptoCard

/-- THE SECOND FORM's CARD OF 'voklaw8.ExpandMembers'. -/
def expandMembersUptoCard : Claim7 := { stood := { row := expandMembersUptoRow, standIns := [], harness := (true, "5624d5b10f0d73d8a006e467e5d904ae6d469fdce41a96eda4326a21a54192ad"), looks := true }, kinds := [], alts := [], laidByText := true, laidKinds := [.data, .data, .data, .data, .sentinel, .sentinel, .pinned], laidTests := true, laidLooks := .later }
def ExpandMembersUptoCardSaid : Prop := Claim7.holds Tryz.pinned (.plain (OpenSpec.upto expandMembersSpec)) expandMembersUptoCard

/-- THE SECOND FORM's CARD OF 'voklaw8.ExpandNext'. -/
def expandNextUptoCard : Claim7 := { stood := { row := expandNextUptoRow, standIns := [], harness := (true, "5624d5b10f0d73d8a006e467e5d904ae6d469fdce41a96eda4326a21a54192ad"), looks := true }, kinds := [], alts := [], laidByText := true, laidKinds := [.data, .data, .data, .data, .sentinel, .sentinel, .pinned], laidTests := true, laidLooks := .later }
def ExpandNextUptoCardSaid : Prop := Claim7.holds Tryz.pinned (.plain (OpenSpec.upto expandNextSpec)) expandNextUptoCard

/-- THE SECOND FORM's CARD OF 'voklaw8.ExpandLists'. -/
def expandListsUptoCard : Claim7 := { stood := { row := expandListsUptoRow, standIns := [], harness := (true, "5624d5b10f0d73d8a006e467e5d904ae6d469fdce41a96eda4326a21a54192ad"), looks := true }, kinds := [], alts := [], laidByText := true, laidKinds := [.data, .data, .data, .data, .sentinel, .sentinel, .pinned], laidTests := true, laidLooks := .later }
def ExpandListsUptoCardSaid : Prop := Claim7.holds Tryz.pinned (.plain (OpenSpec.upto expandListsSpec)) expandListsUptoCard
end Rows
end Go.Proofs.YtdnpbkbklnkjoaaGreatDoor
