/-
  No cell of these rows narrows 'for every input' (looked for: loops, veiled, ifaces, maps, wideKeys, modest, calm, conditions, laid).
  DERIVED. THE GIVEN ROWS OF THIS SEAT. 7 by the template 'for every input the law returns true; each argument reads behind the call as it read before'; 0 by the template 'total and deterministic' (their statements: YtpffinebjiopaaaTotals.lean).
  GIVEN WITH THE SEED: the statements are not yours to turn. If you find one false, say at which input.
  Laid BY PROGRAM, IN A SANDBOX (cutbox-rows.mjs): the forced cells as the released guide's own fill.sh prints them over the translation e4a7dd2cd83b2c20… (all of the seat's roots in one cut). By AI agents, Wed Nov 11 2026. No macro, syntax, notation, axiom, sorry.
-/
import Derived.Test.YtpffinebjiopaaaChecked
import GoSem.Claim
import GoSem.ClaimJoined
import GoSem.ClaimMapViews
import Derived.JoinedTies
import Derived.KernelRfl
namespace Go.Proofs.Ytpffinebjiopaaa
/- THE CELL 'sum', in the pinned program and in every row, IS THE sha256 OF THE DUMP (.gsa) THAT YtpffinebjiopaaaProg.lean LOADS. Nothing in Lean hashes anything: it is a label: what it is worth is what the hold of that sum in a sandbox is worth. -/
noncomputable def Try.pinned : Pinned := { name := "ytpffinebjiopaaa", sum := "e4a7dd2cd83b2c20758fece563c1fc6cfe94f4a8a55cb67e9540fa50968509fc", checked := Try.checked }
namespace Rows
def none {H : Type} : Left H := { results := [], args := [] }

/-- 'voklaw10.IvNorms': WHATEVER THE INPUT: true; the input reads as it did. -/
def ivNormsSpec : ChangeSpec := { name := "ivNorms", fn := fun _ => fun
  | [d] => { results := [.lit (.bool true)], args := [d] }
  | _ => none }
def ivNormsRow : OpenClaim := { program := "ytpffinebjiopaaa", sum := "e4a7dd2cd83b2c20758fece563c1fc6cfe94f4a8a55cb67e9540fa50968509fc", func := "convoker/voklaw10.IvNorms", spec := "ivNorms", unfollowed := true, recurses := true, apart := false }
def IvNormsSaid : Prop := ivNormsRow.holds Try.pinned (OpenSpec.ofChange ivNormsSpec)

/-- ITS FALSE NEIGHBOUR: 'it returns false'. Refute it at one input. -/
def ivNormsWrong : ChangeSpec := { name := "ivNorms", fn := fun _ => fun
  | [d] => { results := [.lit (.bool false)], args := [d] }
  | _ => none }
def IvNormsWrongFalsely : Prop := ivNormsRow.holds Try.pinned (OpenSpec.ofChange ivNormsWrong)

/-- 'voklaw10.IvJoins': WHATEVER THE INPUT: true; the input reads as it did. -/
def ivJoinsSpec : ChangeSpec := { name := "ivJoins", fn := fun _ => fun
  | [d1, d2] => { results := [.lit (.bool true)], args := [d1, d2] }
  | _ => none }
def ivJoinsRow : OpenClaim := { program := "ytpffinebjiopaaa", sum := "e4a7dd2cd83b2c20758fece563c1fc6cfe94f4a8a55cb67e9540fa50968509fc", func := "convoker/voklaw10.IvJoins", spec := "ivJoins", unfollowed := true, recurses := true, apart := false }
def IvJoinsSaid : Prop := ivJoinsRow.holds Try.pinned (OpenSpec.ofChange ivJoinsSpec)

/-- ITS FALSE NEIGHBOUR: 'it returns false'. Refute it at one input. -/
def ivJoinsWrong : ChangeSpec := { name := "ivJoins", fn := fun _ => fun
  | [d1, d2] => { results := [.lit (.bool false)], args := [d1, d2] }
  | _ => none }
def IvJoinsWrongFalsely : Prop := ivJoinsRow.holds Try.pinned (OpenSpec.ofChange ivJoinsWrong)

/-- 'voklaw10.IvApart': WHATEVER THE INPUT: true; the input reads as it did. -/
def ivApartSpec : ChangeSpec := { name := "ivApart", fn := fun _ => fun
  | [d] => { results := [.lit (.bool true)], args := [d] }
  | _ => none }
def ivApartRow : OpenClaim := { program := "ytpffinebjiopaaa", sum := "e4a7dd2cd83b2c20758fece563c1fc6cfe94f4a8a55cb67e9540fa50968509fc", func := "convoker/voklaw10.IvApart", spec := "ivApart", unfollowed := true, recurses := true, apart := false }
def IvApartSaid : Prop := ivApartRow.holds Try.pinned (OpenSpec.ofChange ivApartSpec)

/-- ITS FALSE NEIGHBOUR: 'it returns false'. Refute it at one input. -/
def ivApartWrong : ChangeSpec := { name := "ivApart", fn := fun _ => fun
  | [d] => { results := [.lit (.bool false)], args := [d] }
  | _ => none }
def IvApartWrongFalsely : Prop := ivApartRow.holds Try.pinned (OpenSpec.ofChange ivApartWrong)

/-- 'voklaw10.IvCuts': WHATEVER THE INPUT: true; the input reads as it did. -/
def ivCutsSpec : ChangeSpec := { name := "ivCuts", fn := fun _ => fun
  | [d1, d2, d3] => { results := [.lit (.bool true)], args := [d1, d2, d3] }
  | _ => none }
def ivCutsRow : OpenClaim := { program := "ytpffinebjiopaaa", sum := "e4a7dd2cd83b2c20758fece563c1fc6cfe94f4a8a55cb67e9540fa50968509fc", func := "convoker/voklaw10.IvCuts", spec := "ivCuts", unfollowed := true, recurses := true, apart := false }
def IvCutsSaid : Prop := ivCutsRow.holds Try.pinned (OpenSpec.ofChange ivCutsSpec)

/-- ITS FALSE NEIGHBOUR: 'it returns false'. Refute it at one input. -/
def ivCutsWrong : ChangeSpec := { name := "ivCuts", fn := fun _ => fun
  | [d1, d2, d3] => { results := [.lit (.bool false)], args := [d1, d2, d3] }
  | _ => none }
def IvCutsWrongFalsely : Prop := ivCutsRow.holds Try.pinned (OpenSpec.ofChange ivCutsWrong)

/-- 'voklaw10.IvLeast': WHATEVER THE INPUT: true; the input reads as it did. -/
def ivLeastSpec : ChangeSpec := { name := "ivLeast", fn := fun _ => fun
  | [d1, d2, d3] => { results := [.lit (.bool true)], args := [d1, d2, d3] }
  | _ => none }
def ivLeastRow : OpenClaim := { program := "ytpffinebjiopaaa", sum := "e4a7dd2cd83b2c20758fece563c1fc6cfe94f4a8a55cb67e9540fa50968509fc", func := "convoker/voklaw10.IvLeast", spec := "ivLeast", unfollowed := true, recurses := true, apart := false }
def IvLeastSaid : Prop := ivLeastRow.holds Try.pinned (OpenSpec.ofChange ivLeastSpec)

/-- ITS FALSE NEIGHBOUR: 'it returns false'. Refute it at one input. -/
def ivLeastWrong : ChangeSpec := { name := "ivLeast", fn := fun _ => fun
  | [d1, d2, d3] => { results := [.lit (.bool false)], args := [d1, d2, d3] }
  | _ => none }
def IvLeastWrongFalsely : Prop := ivLeastRow.holds Try.pinned (OpenSpec.ofChange ivLeastWrong)

/-- 'voklaw10.IvUndoes': WHATEVER THE INPUT: true; the input reads as it did. -/
def ivUndoesSpec : ChangeSpec := { name := "ivUndoes", fn := fun _ => fun
  | [d1, d2, d3] => { results := [.lit (.bool true)], args := [d1, d2, d3] }
  | _ => none }
def ivUndoesRow : OpenClaim := { program := "ytpffinebjiopaaa", sum := "e4a7dd2cd83b2c20758fece563c1fc6cfe94f4a8a55cb67e9540fa50968509fc", func := "convoker/voklaw10.IvUndoes", spec := "ivUndoes", unfollowed := true, recurses := true, apart := false }
def IvUndoesSaid : Prop := ivUndoesRow.holds Try.pinned (OpenSpec.ofChange ivUndoesSpec)

/-- ITS FALSE NEIGHBOUR: 'it returns false'. Refute it at one input. -/
def ivUndoesWrong : ChangeSpec := { name := "ivUndoes", fn := fun _ => fun
  | [d1, d2, d3] => { results := [.lit (.bool false)], args := [d1, d2, d3] }
  | _ => none }
def IvUndoesWrongFalsely : Prop := ivUndoesRow.holds Try.pinned (OpenSpec.ofChange ivUndoesWrong)

/-- 'voklaw10.IvPlays': WHATEVER THE INPUT: true; the input reads as it did. -/
def ivPlaysSpec : ChangeSpec := { name := "ivPlays", fn := fun _ => fun
  | [d] => { results := [.lit (.bool true)], args := [d] }
  | _ => none }
def ivPlaysRow : OpenClaim := { program := "ytpffinebjiopaaa", sum := "e4a7dd2cd83b2c20758fece563c1fc6cfe94f4a8a55cb67e9540fa50968509fc", func := "convoker/voklaw10.IvPlays", spec := "ivPlays", unfollowed := true, recurses := true, apart := false }
def IvPlaysSaid : Prop := ivPlaysRow.holds Try.pinned (OpenSpec.ofChange ivPlaysSpec)

/-- ITS FALSE NEIGHBOUR: 'it returns false'. Refute it at one input. -/
def ivPlaysWrong : ChangeSpec := { name := "ivPlays", fn := fun _ => fun
  | [d] => { results := [.lit (.bool false)], args := [d] }
  | _ => none }
def IvPlaysWrongFalsely : Prop := ivPlaysRow.holds Try.pinned (OpenSpec.ofChange ivPlaysWrong)

/- THE SECOND FORM. 'bulk': how many values and letters a reading holds, each counted each time it is reached (what is shared counts as often as it is met; a slice's spare places count too). A statement '..UptoSaid' is the law's where the arguments, and the package variables that the reading takes, are together of bulk at most 1048576: NARROWER than '..Said'. Prove '..Said' where nothing that the law and all that it calls make is longer than what came in: it says more and counts as full. Else prove '..UptoSaid'. A law counts once. -/
mutual
def uptoBulk {H : Type} : DataW H → Nat
  | .lit (.string bytes) => bytes.length + 1
  | .lit _ => 1
  | .nil => 1
  | .ptr d => uptoBulk d + 1
  | .slice elems spare => uptoBulkAll elems + uptoBulkAll spare + 1
  | .agg parts => uptoBulkAll parts + 1
  | .iface _ d => uptoBulk d + 1
  | .map entries => uptoBulkEntries entries + 1
  | .held _ => 1
def uptoBulkAll {H : Type} : List (DataW H) → Nat
  | [] => 0
  | d :: r => uptoBulk d + uptoBulkAll r
def uptoBulkEntries {H : Type} : List (Lit × DataW H) → Nat
  | [] => 0
  | x :: r => uptoBulkEntry x + uptoBulkEntries r
def uptoBulkEntry {H : Type} : Lit × DataW H → Nat
  | (.string bytes, d) => bytes.length + uptoBulk d + 1
  | (_, d) => uptoBulk d + 1
 end
def uptoSmall : (H : Type) → List (DataW H) → Bool := fun _ ds => decide (uptoBulkAll ds ≤ 1048576)
def OpenSpec.upto (s : _root_.Go.ChangeSpec) : _root_.Go.OpenSpec := { _root_.Go.OpenSpec.ofChange s with cond := some uptoSmall }

/-- 'voklaw10.IvNorms', WHERE WHAT IT READS IS OF BULK AT MOST 1048576: true; the input reads as it did. -/
def ivNormsUptoRow : OpenClaim := { program := "ytpffinebjiopaaa", sum := "e4a7dd2cd83b2c20758fece563c1fc6cfe94f4a8a55cb67e9540fa50968509fc", func := "convoker/voklaw10.IvNorms", spec := "ivNorms", unfollowed := true, recurses := true, apart := false, narrowed := true }
def IvNormsUptoSaid : Prop := ivNormsUptoRow.holds Try.pinned (OpenSpec.upto ivNormsSpec)

/-- 'voklaw10.IvJoins', WHERE WHAT IT READS IS OF BULK AT MOST 1048576: true; the input reads as it did. -/
def ivJoinsUptoRow : OpenClaim := { program := "ytpffinebjiopaaa", sum := "e4a7dd2cd83b2c20758fece563c1fc6cfe94f4a8a55cb67e9540fa50968509fc", func := "convoker/voklaw10.IvJoins", spec := "ivJoins", unfollowed := true, recurses := true, apart := false, narrowed := true }
def IvJoinsUptoSaid : Prop := ivJoinsUptoRow.holds Try.pinned (OpenSpec.upto ivJoinsSpec)

/-- 'voklaw10.IvApart', WHERE WHAT IT READS IS OF BULK AT MOST 1048576: true; the input reads as it did. -/
def ivApartUptoRow : OpenClaim := { program := "ytpffinebjiopaaa", sum := "e4a7dd2cd83b2c20758fece563c1fc6cfe94f4a8a55cb67e9540fa50968509fc", func := "convoker/voklaw10.IvApart", spec := "ivApart", unfollowed := true, recurses := true, apart := false, narrowed := true }
def IvApartUptoSaid : Prop := ivApartUptoRow.holds Try.pinned (OpenSpec.upto ivApartSpec)

/-- 'voklaw10.IvCuts', WHERE WHAT IT READS IS OF BULK AT MOST 1048576: true; the input reads as it did. -/
def ivCutsUptoRow : OpenClaim := { program := "ytpffinebjiopaaa", sum := "e4a7dd2cd83b2c20758fece563c1fc6cfe94f4a8a55cb67e9540fa50968509fc", func := "convoker/voklaw10.IvCuts", spec := "ivCuts", unfollowed := true, recurses := true, apart := false, narrowed := true }
def IvCutsUptoSaid : Prop := ivCutsUptoRow.holds Try.pinned (OpenSpec.upto ivCutsSpec)

/-- 'voklaw10.IvLeast', WHERE WHAT IT READS IS OF BULK AT MOST 1048576: true; the input reads as it did. -/
def ivLeastUptoRow : OpenClaim := { program := "ytpffinebjiopaaa", sum := "e4a7dd2cd83b2c20758fece563c1fc6cfe94f4a8a55cb67e9540fa50968509fc", func := "convoker/voklaw10.IvLeast", spec := "ivLeast", unfollowed := true, recurses := true, apart := false, narrowed := true }
def IvLeastUptoSaid : Prop := ivLeastUptoRow.holds Try.pinned (OpenSpec.upto ivLeastSpec)

/-- 'voklaw10.IvUndoes', WHERE WHAT IT READS IS OF BULK AT MOST 1048576: true; the input reads as it did. -/
def ivUndoesUptoRow : OpenClaim := { program := "ytpffinebjiopaaa", sum := "e4a7dd2cd83b2c20758fece563c1fc6cfe94f4a8a55cb67e9540fa50968509fc", func := "convoker/voklaw10.IvUndoes", spec := "ivUndoes", unfollowed := true, recurses := true, apart := false, narrowed := true }
def IvUndoesUptoSaid : Prop := ivUndoesUptoRow.holds Try.pinned (OpenSpec.upto ivUndoesSpec)

/-- 'voklaw10.IvPlays', WHERE WHAT IT READS IS OF BULK AT MOST 1048576: true; the input reads as it did. -/
def ivPlaysUptoRow : OpenClaim := { program := "ytpffinebjiopaaa", sum := "e4a7dd2cd83b2c20758fece563c1fc6cfe94f4a8a55cb67e9540fa50968509fc", func := "convoker/voklaw10.IvPlays", spec := "ivPlays", unfollowed := true, recurses := true, apart := false, narrowed := true }
def IvPlaysUptoSaid : Prop := ivPlaysUptoRow.holds Try.pinned (OpenSpec.upto ivPlaysSpec)

end Rows
end Go.Proofs.Ytpffinebjiopaaa
