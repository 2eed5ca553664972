/-
  No cell of these rows narrows 'for every input' (looked for: loops, veiled, ifaces, maps, wideKeys, modest, calm, conditions, laid).
  DERIVED. THE GIVEN ROWS OF THIS SEAT. 6 by the template 'for every input the law returns true; each argument reads behind the call as it read before'; 0 by the template 'total and deterministic' (their statements: YtfddmilldiadeaaTotals.lean).
  GIVEN WITH THE SEED: the statements are not yours to turn. If you find one false, say at which input.
  Laid BY PROGRAM, IN A SANDBOX (cutbox-rows.mjs): the forced cells as the released guide's own fill.sh prints them over the translation 1028718eddc9619a… (all of the seat's roots in one cut). By AI agents, Wed Nov 11 2026. No macro, syntax, notation, axiom, sorry.
-/
import Derived.Test.YtfddmilldiadeaaChecked
import GoSem.Claim
import GoSem.ClaimJoined
import GoSem.ClaimMapViews
import Derived.JoinedTies
import Derived.KernelRfl
namespace Go.Proofs.Ytfddmilldiadeaa
/- THE CELL 'sum', in the pinned program and in every row, IS THE sha256 OF THE DUMP (.gsa) THAT YtfddmilldiadeaaProg.lean LOADS. Nothing in Lean hashes anything: it is a label: what it is worth is what the hold of that sum in a sandbox is worth. -/
noncomputable def Try.pinned : Pinned := { name := "ytfddmilldiadeaa", sum := "1028718eddc9619ab3d8ec9c327c03a507a02ff9872f2d814628608c112fc5df", checked := Try.checked }
namespace Rows
def none {H : Type} : Left H := { results := [], args := [] }

/-- 'voklaw11.TimerMerges': WHATEVER THE INPUT: true; the input reads as it did. -/
def timerMergesSpec : ChangeSpec := { name := "timerMerges", fn := fun _ => fun
  | [d] => { results := [.lit (.bool true)], args := [d] }
  | _ => none }
def timerMergesRow : OpenClaim := { program := "ytfddmilldiadeaa", sum := "1028718eddc9619ab3d8ec9c327c03a507a02ff9872f2d814628608c112fc5df", func := "convoker/voklaw11.TimerMerges", spec := "timerMerges", unfollowed := true, recurses := true, apart := false }
def TimerMergesSaid : Prop := timerMergesRow.holds Try.pinned (OpenSpec.ofChange timerMergesSpec)

/-- ITS FALSE NEIGHBOUR: 'it returns false'. Refute it at one input. -/
def timerMergesWrong : ChangeSpec := { name := "timerMerges", fn := fun _ => fun
  | [d] => { results := [.lit (.bool false)], args := [d] }
  | _ => none }
def TimerMergesWrongFalsely : Prop := timerMergesRow.holds Try.pinned (OpenSpec.ofChange timerMergesWrong)

/-- 'voklaw11.TimerUnion': WHATEVER THE INPUT: true; the input reads as it did. -/
def timerUnionSpec : ChangeSpec := { name := "timerUnion", fn := fun _ => fun
  | [d1, d2, d3] => { results := [.lit (.bool true)], args := [d1, d2, d3] }
  | _ => none }
def timerUnionRow : OpenClaim := { program := "ytfddmilldiadeaa", sum := "1028718eddc9619ab3d8ec9c327c03a507a02ff9872f2d814628608c112fc5df", func := "convoker/voklaw11.TimerUnion", spec := "timerUnion", unfollowed := true, recurses := true, apart := false }
def TimerUnionSaid : Prop := timerUnionRow.holds Try.pinned (OpenSpec.ofChange timerUnionSpec)

/-- ITS FALSE NEIGHBOUR: 'it returns false'. Refute it at one input. -/
def timerUnionWrong : ChangeSpec := { name := "timerUnion", fn := fun _ => fun
  | [d1, d2, d3] => { results := [.lit (.bool false)], args := [d1, d2, d3] }
  | _ => none }
def TimerUnionWrongFalsely : Prop := timerUnionRow.holds Try.pinned (OpenSpec.ofChange timerUnionWrong)

/-- 'voklaw11.TimerHeads': WHATEVER THE INPUT: true; the input reads as it did. -/
def timerHeadsSpec : ChangeSpec := { name := "timerHeads", fn := fun _ => fun
  | [d] => { results := [.lit (.bool true)], args := [d] }
  | _ => none }
def timerHeadsRow : OpenClaim := { program := "ytfddmilldiadeaa", sum := "1028718eddc9619ab3d8ec9c327c03a507a02ff9872f2d814628608c112fc5df", func := "convoker/voklaw11.TimerHeads", spec := "timerHeads", unfollowed := true, recurses := true, apart := false }
def TimerHeadsSaid : Prop := timerHeadsRow.holds Try.pinned (OpenSpec.ofChange timerHeadsSpec)

/-- ITS FALSE NEIGHBOUR: 'it returns false'. Refute it at one input. -/
def timerHeadsWrong : ChangeSpec := { name := "timerHeads", fn := fun _ => fun
  | [d] => { results := [.lit (.bool false)], args := [d] }
  | _ => none }
def TimerHeadsWrongFalsely : Prop := timerHeadsRow.holds Try.pinned (OpenSpec.ofChange timerHeadsWrong)

/-- 'voklaw11.TimerOrder': WHATEVER THE INPUT: true; the input reads as it did. -/
def timerOrderSpec : ChangeSpec := { name := "timerOrder", fn := fun _ => fun
  | [d1, d2] => { results := [.lit (.bool true)], args := [d1, d2] }
  | _ => none }
def timerOrderRow : OpenClaim := { program := "ytfddmilldiadeaa", sum := "1028718eddc9619ab3d8ec9c327c03a507a02ff9872f2d814628608c112fc5df", func := "convoker/voklaw11.TimerOrder", spec := "timerOrder", unfollowed := true, recurses := true, apart := false }
def TimerOrderSaid : Prop := timerOrderRow.holds Try.pinned (OpenSpec.ofChange timerOrderSpec)

/-- ITS FALSE NEIGHBOUR: 'it returns false'. Refute it at one input. -/
def timerOrderWrong : ChangeSpec := { name := "timerOrder", fn := fun _ => fun
  | [d1, d2] => { results := [.lit (.bool false)], args := [d1, d2] }
  | _ => none }
def TimerOrderWrongFalsely : Prop := timerOrderRow.holds Try.pinned (OpenSpec.ofChange timerOrderWrong)

/-- 'voklaw11.TimerPlays': WHATEVER THE INPUT: true; the input reads as it did. -/
def timerPlaysSpec : ChangeSpec := { name := "timerPlays", fn := fun _ => fun
  | [d] => { results := [.lit (.bool true)], args := [d] }
  | _ => none }
def timerPlaysRow : OpenClaim := { program := "ytfddmilldiadeaa", sum := "1028718eddc9619ab3d8ec9c327c03a507a02ff9872f2d814628608c112fc5df", func := "convoker/voklaw11.TimerPlays", spec := "timerPlays", unfollowed := true, recurses := true, apart := false }
def TimerPlaysSaid : Prop := timerPlaysRow.holds Try.pinned (OpenSpec.ofChange timerPlaysSpec)

/-- ITS FALSE NEIGHBOUR: 'it returns false'. Refute it at one input. -/
def timerPlaysWrong : ChangeSpec := { name := "timerPlays", fn := fun _ => fun
  | [d] => { results := [.lit (.bool false)], args := [d] }
  | _ => none }
def TimerPlaysWrongFalsely : Prop := timerPlaysRow.holds Try.pinned (OpenSpec.ofChange timerPlaysWrong)

/-- 'voklaw11.TimerDrops': WHATEVER THE INPUT: true; the input reads as it did. -/
def timerDropsSpec : ChangeSpec := { name := "timerDrops", fn := fun _ => fun
  | [d1, d2] => { results := [.lit (.bool true)], args := [d1, d2] }
  | _ => none }
def timerDropsRow : OpenClaim := { program := "ytfddmilldiadeaa", sum := "1028718eddc9619ab3d8ec9c327c03a507a02ff9872f2d814628608c112fc5df", func := "convoker/voklaw11.TimerDrops", spec := "timerDrops", unfollowed := true, recurses := true, apart := false }
def TimerDropsSaid : Prop := timerDropsRow.holds Try.pinned (OpenSpec.ofChange timerDropsSpec)

/-- ITS FALSE NEIGHBOUR: 'it returns false'. Refute it at one input. -/
def timerDropsWrong : ChangeSpec := { name := "timerDrops", fn := fun _ => fun
  | [d1, d2] => { results := [.lit (.bool false)], args := [d1, d2] }
  | _ => none }
def TimerDropsWrongFalsely : Prop := timerDropsRow.holds Try.pinned (OpenSpec.ofChange timerDropsWrong)

/- THE SECOND FORM. 'bulk': how many values and letters a reading holds, each counted each time it is reached (what is shared counts as often as it is met; a slice's spare places count too). A statement '..UptoSaid' is the law's where the arguments, and the package variables that the reading takes, are together of bulk at most 1048576: NARROWER than '..Said'. Prove '..Said' where nothing that the law and all that it calls make is longer than what came in: it says more and counts as full. Else prove '..UptoSaid'. A law counts once. -/
mutual
def uptoBulk {H : Type} : DataW H → Nat
  | .lit (.string bytes) => bytes.length + 1
  | .lit _ => 1
  | .nil => 1
  | .ptr d => uptoBulk d + 1
  | .slice elems spare => uptoBulkAll elems + uptoBulkAll spare + 1
  | .agg parts => uptoBulkAll parts + 1
  | .iface _ d => uptoBulk d + 1
  | .map entries => uptoBulkEntries entries + 1
  | .held _ => 1
def uptoBulkAll {H : Type} : List (DataW H) → Nat
  | [] => 0
  | d :: r => uptoBulk d + uptoBulkAll r
def uptoBulkEntries {H : Type} : List (Lit × DataW H) → Nat
  | [] => 0
  | x :: r => uptoBulkEntry x + uptoBulkEntries r
def uptoBulkEntry {H : Type} : Lit × DataW H → Nat
  | (.string bytes, d) => bytes.length + uptoBulk d + 1
  | (_, d) => uptoBulk d + 1
 end
def uptoSmall : (H : Type) → List (DataW H) → Bool := fun _ ds => decide (uptoBulkAll ds ≤ 1048576)
def OpenSpec.upto (s : _root_.Go.ChangeSpec) : _root_.Go.OpenSpec := { _root_.Go.OpenSpec.ofChange s with cond := some uptoSmall }

/-- 'voklaw11.TimerMerges', WHERE WHAT IT READS IS OF BULK AT MOST 1048576: true; the input reads as it did. -/
def timerMergesUptoRow : OpenClaim := { program := "ytfddmilldiadeaa", sum := "1028718eddc9619ab3d8ec9c327c03a507a02ff9872f2d814628608c112fc5df", func := "convoker/voklaw11.TimerMerges", spec := "timerMerges", unfollowed := true, recurses := true, apart := false, narrowed := true }
def TimerMergesUptoSaid : Prop := timerMergesUptoRow.holds Try.pinned (OpenSpec.upto timerMergesSpec)

/-- 'voklaw11.TimerUnion', WHERE WHAT IT READS IS OF BULK AT MOST 1048576: true; the input reads as it did. -/
def timerUnionUptoRow : OpenClaim := { program := "ytfddmilldiadeaa", sum := "1028718eddc9619ab3d8ec9c327c03a507a02ff9872f2d814628608c112fc5df", func := "convoker/voklaw11.TimerUnion", spec := "timerUnion", unfollowed := true, recurses := true, apart := false, narrowed := true }
def TimerUnionUptoSaid : Prop := timerUnionUptoRow.holds Try.pinned (OpenSpec.upto timerUnionSpec)

/-- 'voklaw11.TimerHeads', WHERE WHAT IT READS IS OF BULK AT MOST 1048576: true; the input reads as it did. -/
def timerHeadsUptoRow : OpenClaim := { program := "ytfddmilldiadeaa", sum := "1028718eddc9619ab3d8ec9c327c03a507a02ff9872f2d814628608c112fc5df", func := "convoker/voklaw11.TimerHeads", spec := "timerHeads", unfollowed := true, recurses := true, apart := false, narrowed := true }
def TimerHeadsUptoSaid : Prop := timerHeadsUptoRow.holds Try.pinned (OpenSpec.upto timerHeadsSpec)

/-- 'voklaw11.TimerOrder', WHERE WHAT IT READS IS OF BULK AT MOST 1048576: true; the input reads as it did. -/
def timerOrderUptoRow : OpenClaim := { program := "ytfddmilldiadeaa", sum := "1028718eddc9619ab3d8ec9c327c03a507a02ff9872f2d814628608c112fc5df", func := "convoker/voklaw11.TimerOrder", spec := "timerOrder", unfollowed := true, recurses := true, apart := false, narrowed := true }
def TimerOrderUptoSaid : Prop := timerOrderUptoRow.holds Try.pinned (OpenSpec.upto timerOrderSpec)

/-- 'voklaw11.TimerPlays', WHERE WHAT IT READS IS OF BULK AT MOST 1048576: true; the input reads as it did. -/
def timerPlaysUptoRow : OpenClaim := { program := "ytfddmilldiadeaa", sum := "1028718eddc9619ab3d8ec9c327c03a507a02ff9872f2d814628608c112fc5df", func := "convoker/voklaw11.TimerPlays", spec := "timerPlays", unfollowed := true, recurses := true, apart := false, narrowed := true }
def TimerPlaysUptoSaid : Prop := timerPlaysUptoRow.holds Try.pinned (OpenSpec.upto timerPlaysSpec)

/-- 'voklaw11.TimerDrops', WHERE WHAT IT READS IS OF BULK AT MOST 1048576: true; the input reads as it did. -/
def timerDropsUptoRow : OpenClaim := { program := "ytfddmilldiadeaa", sum := "1028718eddc9619ab3d8ec9c327c03a507a02ff9872f2d814628608c112fc5df", func := "convoker/voklaw11.TimerDrops", spec := "timerDrops", unfollowed := true, recurses := true, apart := false, narrowed := true }
def TimerDropsUptoSaid : Prop := timerDropsUptoRow.holds Try.pinned (OpenSpec.upto timerDropsSpec)

end Rows
end Go.Proofs.Ytfddmilldiadeaa
