/-
  NARROWER THAN 'FOR EVERY INPUT', by the rows' own cells (each row's printed sentence says how): FoldSplits: laid · FoldCuts: laid · FoldNames: laid · FoldEnds: laid · FoldWrong: laid · FoldJoins: laid · FoldBack: laid.
  DERIVED. THE GIVEN ROWS OF THIS SEAT. 7 by the template 'for every input the law returns true; each argument reads behind the call as it read before'; 0 by the template 'total and deterministic' (their statements: YtlfiapleboklcaaDoorTotals.lean).
  GIVEN WITH THE SEED: the statements are not yours to turn. If you find one false, say at which input.
  Laid BY PROGRAM, IN A SANDBOX (cutbox-rows.mjs): the forced cells as the released guide's own fill.sh prints them over the translation 1854b8d4ef8d3133… (all of the seat's roots in one cut). By AI agents, Wed Nov 11 2026. No macro, syntax, notation, axiom, sorry.
-/
import Derived.Test.YtlfiapleboklcaaDoorChecked
import GoSem.PinnedTables
import GoSem.Claim
import GoSem.ClaimJoined
import GoSem.ClaimMapViews
import Derived.JoinedTies
import Derived.KernelRfl
namespace Go.Proofs.YtlfiapleboklcaaDoor
/- THE CELL 'sum', in the pinned program and in every row, IS THE sha256 OF THE DUMP (.gsa) THAT YtlfiapleboklcaaDoorProg.lean LOADS. Nothing in Lean hashes anything: it is a label: what it is worth is what the hold of that sum in a sandbox is worth. -/
noncomputable def Tryd.pinned : Pinned := { name := "ytlfiapleboklcaadoor", sum := "1854b8d4ef8d3133899323f9ab1fcd2b9edd59576bd9f917c81530050debc7dd", checked := Tryd.checked }
namespace Rows
def none {H : Type} : Left H := { results := [], args := [] }

/- WHAT THE LISTED PACKAGE-LEVEL VARIABLES READ AS WHEN THE CALL BEGINS. Each datum BY PROGRAM (the guide's laid-datum.mjs) off the statement by which the dump's own 'gosem.cut.vars' lays the variable. In a bare row this is a premise. The card (YtlfiapleboklcaaDoorCards.lean) ties it to the program's text. -/
def laid_unicode_utf8_acceptRanges {H : Type} : DataW H := .agg [.agg [.lit (.int .u8 128), .lit (.int .u8 191)], .agg [.lit (.int .u8 160), .lit (.int .u8 191)], .agg [.lit (.int .u8 128), .lit (.int .u8 159)], .agg [.lit (.int .u8 144), .lit (.int .u8 191)], .agg [.lit (.int .u8 128), .lit (.int .u8 143)], .agg [.lit (.int .u8 0), .lit (.int .u8 0)], .agg [.lit (.int .u8 0), .lit (.int .u8 0)], .agg [.lit (.int .u8 0), .lit (.int .u8 0)], .agg [.lit (.int .u8 0), .lit (.int .u8 0)], .agg [.lit (.int .u8 0), .lit (.int .u8 0)], .agg [.lit (.int .u8 0), .lit (.int .u8 0)], .agg [.lit (.int .u8 0), .lit (.int .u8 0)], .agg [.lit (.int .u8 0), .lit (.int .u8 0)], .agg [.lit (.int .u8 0), .lit (.int .u8 0)], .agg [.lit (.int .u8 0), .lit (.int .u8 0)], .agg [.lit (.int .u8 0), .lit (.int .u8 0)]]
/-- One of Go's own tables, pinned by name: the form's constant. -/
def laid_unicode_utf8_first : DataW Unit := Go.Pinned.utf8First

/-- 'voklaw4.FoldSplits': WHATEVER THE INPUT: true; the input reads as it did. -/
def foldSplitsSpec : ChangeSpec := { name := "foldSplits", fn := fun _ => fun
  | [d1, d2] => { results := [.lit (.bool true)], args := [d1, d2] }
  | _ => none }
def foldSplitsRow : OpenClaim := { program := "ytlfiapleboklcaadoor", sum := "1854b8d4ef8d3133899323f9ab1fcd2b9edd59576bd9f917c81530050debc7dd", func := "convoker/voklaw4.FoldSplits", spec := "foldSplits", inPlace := ["internal/bytealg.CountString", "internal/bytealg.IndexByteString", "internal/bytealg.IndexString"], named := ["unicode/utf8.first", "unicode/utf8.acceptRanges", "internal/bytealg.MaxLen"], apart := false, laid := [("unicode/utf8.acceptRanges", laid_unicode_utf8_acceptRanges), ("unicode/utf8.first", laid_unicode_utf8_first)] }
def FoldSplitsSaid : Prop := foldSplitsRow.holds Tryd.pinned (OpenSpec.ofChange foldSplitsSpec)

/-- ITS FALSE NEIGHBOUR: 'it returns false'. Refute it at one input. -/
def foldSplitsWrong : ChangeSpec := { name := "foldSplits", fn := fun _ => fun
  | [d1, d2] => { results := [.lit (.bool false)], args := [d1, d2] }
  | _ => none }
def FoldSplitsWrongFalsely : Prop := foldSplitsRow.holds Tryd.pinned (OpenSpec.ofChange foldSplitsWrong)

/-- 'voklaw4.FoldCuts': WHATEVER THE INPUT: true; the input reads as it did. -/
def foldCutsSpec : ChangeSpec := { name := "foldCuts", fn := fun _ => fun
  | [d1, d2, d3] => { results := [.lit (.bool true)], args := [d1, d2, d3] }
  | _ => none }
def foldCutsRow : OpenClaim := { program := "ytlfiapleboklcaadoor", sum := "1854b8d4ef8d3133899323f9ab1fcd2b9edd59576bd9f917c81530050debc7dd", func := "convoker/voklaw4.FoldCuts", spec := "foldCuts", inPlace := ["internal/bytealg.CountString", "internal/bytealg.IndexByteString", "internal/bytealg.IndexString"], named := ["unicode/utf8.first", "unicode/utf8.acceptRanges", "internal/bytealg.MaxLen"], apart := false, laid := [("unicode/utf8.acceptRanges", laid_unicode_utf8_acceptRanges), ("unicode/utf8.first", laid_unicode_utf8_first)] }
def FoldCutsSaid : Prop := foldCutsRow.holds Tryd.pinned (OpenSpec.ofChange foldCutsSpec)

/-- ITS FALSE NEIGHBOUR: 'it returns false'. Refute it at one input. -/
def foldCutsWrong : ChangeSpec := { name := "foldCuts", fn := fun _ => fun
  | [d1, d2, d3] => { results := [.lit (.bool false)], args := [d1, d2, d3] }
  | _ => none }
def FoldCutsWrongFalsely : Prop := foldCutsRow.holds Tryd.pinned (OpenSpec.ofChange foldCutsWrong)

/-- 'voklaw4.FoldNames': WHATEVER THE INPUT: true; the input reads as it did. -/
def foldNamesSpec : ChangeSpec := { name := "foldNames", fn := fun _ => fun
  | [d1, d2, d3] => { results := [.lit (.bool true)], args := [d1, d2, d3] }
  | _ => none }
def foldNamesRow : OpenClaim := { program := "ytlfiapleboklcaadoor", sum := "1854b8d4ef8d3133899323f9ab1fcd2b9edd59576bd9f917c81530050debc7dd", func := "convoker/voklaw4.FoldNames", spec := "foldNames", inPlace := ["internal/bytealg.CountString", "internal/bytealg.IndexByteString", "internal/bytealg.IndexString"], named := ["unicode/utf8.first", "unicode/utf8.acceptRanges", "internal/bytealg.MaxLen"], apart := false, laid := [("unicode/utf8.acceptRanges", laid_unicode_utf8_acceptRanges), ("unicode/utf8.first", laid_unicode_utf8_first)] }
def FoldNamesSaid : Prop := foldNamesRow.holds Tryd.pinned (OpenSpec.ofChange foldNamesSpec)

/-- ITS FALSE NEIGHBOUR: 'it returns false'. Refute it at one input. -/
def foldNamesWrong : ChangeSpec := { name := "foldNames", fn := fun _ => fun
  | [d1, d2, d3] => { results := [.lit (.bool false)], args := [d1, d2, d3] }
  | _ => none }
def FoldNamesWrongFalsely : Prop := foldNamesRow.holds Tryd.pinned (OpenSpec.ofChange foldNamesWrong)

/-- 'voklaw4.FoldEnds': WHATEVER THE INPUT: true; the input reads as it did. -/
def foldEndsSpec : ChangeSpec := { name := "foldEnds", fn := fun _ => fun
  | [d] => { results := [.lit (.bool true)], args := [d] }
  | _ => none }
def foldEndsRow : OpenClaim := { program := "ytlfiapleboklcaadoor", sum := "1854b8d4ef8d3133899323f9ab1fcd2b9edd59576bd9f917c81530050debc7dd", func := "convoker/voklaw4.FoldEnds", spec := "foldEnds", inPlace := ["internal/bytealg.CountString", "internal/bytealg.IndexByteString", "internal/bytealg.IndexString"], named := ["unicode/utf8.first", "unicode/utf8.acceptRanges", "internal/bytealg.MaxLen"], apart := false, laid := [("unicode/utf8.acceptRanges", laid_unicode_utf8_acceptRanges), ("unicode/utf8.first", laid_unicode_utf8_first)] }
def FoldEndsSaid : Prop := foldEndsRow.holds Tryd.pinned (OpenSpec.ofChange foldEndsSpec)

/-- ITS FALSE NEIGHBOUR: 'it returns false'. Refute it at one input. -/
def foldEndsWrong : ChangeSpec := { name := "foldEnds", fn := fun _ => fun
  | [d] => { results := [.lit (.bool false)], args := [d] }
  | _ => none }
def FoldEndsWrongFalsely : Prop := foldEndsRow.holds Tryd.pinned (OpenSpec.ofChange foldEndsWrong)

/-- 'voklaw4.FoldWrong': WHATEVER THE INPUT: true; the input reads as it did. -/
def foldWrongSpec : ChangeSpec := { name := "foldWrong", fn := fun _ => fun
  | [d1, d2, d3] => { results := [.lit (.bool true)], args := [d1, d2, d3] }
  | _ => none }
def foldWrongRow : OpenClaim := { program := "ytlfiapleboklcaadoor", sum := "1854b8d4ef8d3133899323f9ab1fcd2b9edd59576bd9f917c81530050debc7dd", func := "convoker/voklaw4.FoldWrong", spec := "foldWrong", inPlace := ["internal/bytealg.CountString", "internal/bytealg.IndexByteString", "internal/bytealg.IndexString"], named := ["unicode/utf8.first", "unicode/utf8.acceptRanges", "internal/bytealg.MaxLen"], apart := false, laid := [("unicode/utf8.acceptRanges", laid_unicode_utf8_acceptRanges), ("unicode/utf8.first", laid_unicode_utf8_first)] }
def FoldWrongSaid : Prop := foldWrongRow.holds Tryd.pinned (OpenSpec.ofChange foldWrongSpec)

/-- ITS FALSE NEIGHBOUR: 'it returns false'. Refute it at one input. -/
def foldWrongWrong : ChangeSpec := { name := "foldWrong", fn := fun _ => fun
  | [d1, d2, d3] => { results := [.lit (.bool false)], args := [d1, d2, d3] }
  | _ => none }
def FoldWrongWrongFalsely : Prop := foldWrongRow.holds Tryd.pinned (OpenSpec.ofChange foldWrongWrong)

/-- 'voklaw4.FoldJoins': WHATEVER THE INPUT: true; the input reads as it did. -/
def foldJoinsSpec : ChangeSpec := { name := "foldJoins", fn := fun _ => fun
  | [d] => { results := [.lit (.bool true)], args := [d] }
  | _ => none }
def foldJoinsRow : OpenClaim := { program := "ytlfiapleboklcaadoor", sum := "1854b8d4ef8d3133899323f9ab1fcd2b9edd59576bd9f917c81530050debc7dd", func := "convoker/voklaw4.FoldJoins", spec := "foldJoins", inPlace := ["internal/bytealg.CountString", "internal/bytealg.IndexByteString", "internal/bytealg.IndexString"], named := ["unicode/utf8.first", "unicode/utf8.acceptRanges", "internal/bytealg.MaxLen"], apart := false, laid := [("unicode/utf8.acceptRanges", laid_unicode_utf8_acceptRanges), ("unicode/utf8.first", laid_unicode_utf8_first)] }
def FoldJoinsSaid : Prop := foldJoinsRow.holds Tryd.pinned (OpenSpec.ofChange foldJoinsSpec)

/-- ITS FALSE NEIGHBOUR: 'it returns false'. Refute it at one input. -/
def foldJoinsWrong : ChangeSpec := { name := "foldJoins", fn := fun _ => fun
  | [d] => { results := [.lit (.bool false)], args := [d] }
  | _ => none }
def FoldJoinsWrongFalsely : Prop := foldJoinsRow.holds Tryd.pinned (OpenSpec.ofChange foldJoinsWrong)

/-- 'voklaw4.FoldBack': WHATEVER THE INPUT: true; the input reads as it did. -/
def foldBackSpec : ChangeSpec := { name := "foldBack", fn := fun _ => fun
  | [d] => { results := [.lit (.bool true)], args := [d] }
  | _ => none }
def foldBackRow : OpenClaim := { program := "ytlfiapleboklcaadoor", sum := "1854b8d4ef8d3133899323f9ab1fcd2b9edd59576bd9f917c81530050debc7dd", func := "convoker/voklaw4.FoldBack", spec := "foldBack", inPlace := ["internal/bytealg.CountString", "internal/bytealg.IndexByteString", "internal/bytealg.IndexString"], named := ["unicode/utf8.first", "unicode/utf8.acceptRanges", "internal/bytealg.MaxLen"], apart := false, laid := [("unicode/utf8.acceptRanges", laid_unicode_utf8_acceptRanges), ("unicode/utf8.first", laid_unicode_utf8_first)] }
def FoldBackSaid : Prop := foldBackRow.holds Tryd.pinned (OpenSpec.ofChange foldBackSpec)

/-- ITS FALSE NEIGHBOUR: 'it returns false'. Refute it at one input. -/
def foldBackWrong : ChangeSpec := { name := "foldBack", fn := fun _ => fun
  | [d] => { results := [.lit (.bool false)], args := [d] }
  | _ => none }
def FoldBackWrongFalsely : Prop := foldBackRow.holds Tryd.pinned (OpenSpec.ofChange foldBackWrong)

/- THE SECOND FORM. 'bulk': how many values and letters a reading holds, each counted each time it is reached (what is shared counts as often as it is met; a slice's spare places count too). A statement '..UptoSaid' is the law's where the arguments, and the package variables that the reading takes, are together of bulk at most 1048576: NARROWER than '..Said'. Prove '..Said' where nothing that the law and all that it calls make is longer than what came in: it says more and counts as full. Else prove '..UptoSaid'. A law counts once. -/
mutual
def uptoBulk {H : Type} : DataW H → Nat
  | .lit (.string bytes) => bytes.length + 1
  | .lit _ => 1
  | .nil => 1
  | .ptr d => uptoBulk d + 1
  | .slice elems spare => uptoBulkAll elems + uptoBulkAll spare + 1
  | .agg parts => uptoBulkAll parts + 1
  | .iface _ d => uptoBulk d + 1
  | .map entries => uptoBulkEntries entries + 1
  | .held _ => 1
def uptoBulkAll {H : Type} : List (DataW H) → Nat
  | [] => 0
  | d :: r => uptoBulk d + uptoBulkAll r
def uptoBulkEntries {H : Type} : List (Lit × DataW H) → Nat
  | [] => 0
  | x :: r => uptoBulkEntry x + uptoBulkEntries r
def uptoBulkEntry {H : Type} : Lit × DataW H → Nat
  | (.string bytes, d) => bytes.length + uptoBulk d + 1
  | (_, d) => uptoBulk d + 1
 end
def uptoSmall : (H : Type) → List (DataW H) → Bool := fun _ ds => decide (uptoBulkAll ds ≤ 1048576)
def OpenSpec.upto (s : _root_.Go.ChangeSpec) : _root_.Go.OpenSpec := { _root_.Go.OpenSpec.ofChange s with cond := some uptoSmall }

/-- 'voklaw4.FoldSplits', WHERE WHAT IT READS IS OF BULK AT MOST 1048576: true; the input reads as it did. -/
def foldSplitsUptoRow : OpenClaim := { program := "ytlfiapleboklcaadoor", sum := "1854b8d4ef8d3133899323f9ab1fcd2b9edd59576bd9f917c81530050debc7dd", func := "convoker/voklaw4.FoldSplits", spec := "foldSplits", inPlace := ["internal/bytealg.CountString", "internal/bytealg.IndexByteString", "internal/bytealg.IndexString"], named := ["unicode/utf8.first", "unicode/utf8.acceptRanges", "internal/bytealg.MaxLen"], apart := false, laid := [("unicode/utf8.acceptRanges", laid_unicode_utf8_acceptRanges), ("unicode/utf8.first", laid_unicode_utf8_first)], narrowed := true }
def FoldSplitsUptoSaid : Prop := foldSplitsUptoRow.holds Tryd.pinned (OpenSpec.upto foldSplitsSpec)

/-- 'voklaw4.FoldCuts', WHERE WHAT IT READS IS OF BULK AT MOST 1048576: true; the input reads as it did. -/
def foldCutsUptoRow : OpenClaim := { program := "ytlfiapleboklcaadoor", sum := "1854b8d4ef8d3133899323f9ab1fcd2b9edd59576bd9f917c81530050debc7dd", func := "convoker/voklaw4.FoldCuts", spec := "foldCuts", inPlace := ["internal/bytealg.CountString", "internal/bytealg.IndexByteString", "internal/bytealg.IndexString"], named := ["unicode/utf8.first", "unicode/utf8.acceptRanges", "internal/bytealg.MaxLen"], apart := false, laid := [("unicode/utf8.acceptRanges", laid_unicode_utf8_acceptRanges), ("unicode/utf8.first", laid_unicode_utf8_first)], narrowed := true }
def FoldCutsUptoSaid : Prop := foldCutsUptoRow.holds Tryd.pinned (OpenSpec.upto foldCutsSpec)

/-- 'voklaw4.FoldNames', WHERE WHAT IT READS IS OF BULK AT MOST 1048576: true; the input reads as it did. -/
def foldNamesUptoRow : OpenClaim := { program := "ytlfiapleboklcaadoor", sum := "1854b8d4ef8d3133899323f9ab1fcd2b9edd59576bd9f917c81530050debc7dd", func := "convoker/voklaw4.FoldNames", spec := "foldNames", inPlace := ["internal/bytealg.CountString", "internal/bytealg.IndexByteString", "internal/bytealg.IndexString"], named := ["unicode/utf8.first", "unicode/utf8.acceptRanges", "internal/bytealg.MaxLen"], apart := false, laid := [("unicode/utf8.acceptRanges", laid_unicode_utf8_acceptRanges), ("unicode/utf8.first", laid_unicode_utf8_first)], narrowed := true }
def FoldNamesUptoSaid : Prop := foldNamesUptoRow.holds Tryd.pinned (OpenSpec.upto foldNamesSpec)

/-- 'voklaw4.FoldEnds', WHERE WHAT IT READS IS OF BULK AT MOST 1048576: true; the input reads as it did. -/
def foldEndsUptoRow : OpenClaim := { program := "ytlfiapleboklcaadoor", sum := "1854b8d4ef8d3133899323f9ab1fcd2b9edd59576bd9f917c81530050debc7dd", func := "convoker/voklaw4.FoldEnds", spec := "foldEnds", inPlace := ["internal/bytealg.CountString", "internal/bytealg.IndexByteString", "internal/bytealg.IndexString"], named := ["unicode/utf8.first", "unicode/utf8.acceptRanges", "internal/bytealg.MaxLen"], apart := false, laid := [("unicode/utf8.acceptRanges", laid_unicode_utf8_acceptRanges), ("unicode/utf8.first", laid_unicode_utf8_first)], narrowed := true }
def FoldEndsUptoSaid : Prop := foldEndsUptoRow.holds Tryd.pinned (OpenSpec.upto foldEndsSpec)

/-- 'voklaw4.FoldWrong', WHERE WHAT IT READS IS OF BULK AT MOST 1048576: true; the input reads as it did. -/
def foldWrongUptoRow : OpenClaim := { program := "ytlfiapleboklcaadoor", sum := "1854b8d4ef8d3133899323f9ab1fcd2b9edd59576bd9f917c81530050debc7dd", func := "convoker/voklaw4.FoldWrong", spec := "foldWrong", inPlace := ["internal/bytealg.CountString", "internal/bytealg.IndexByteString", "internal/bytealg.IndexString"], named := ["unicode/utf8.first", "unicode/utf8.acceptRanges", "internal/bytealg.MaxLen"], apart := false, laid := [("unicode/utf8.acceptRanges", laid_unicode_utf8_acceptRanges), ("unicode/utf8.first", laid_unicode_utf8_first)], narrowed := true }
def FoldWrongUptoSaid : Prop := foldWrongUptoRow.holds Tryd.pinned (OpenSpec.upto foldWrongSpec)

/-- 'voklaw4.FoldJoins', WHERE WHAT IT READS IS OF BULK AT MOST 1048576: true; the input reads as it did. -/
def foldJoinsUptoRow : OpenClaim := { program := "ytlfiapleboklcaadoor", sum := "1854b8d4ef8d3133899323f9ab1fcd2b9edd59576bd9f917c81530050debc7dd", func := "convoker/voklaw4.FoldJoins", spec := "foldJoins", inPlace := ["internal/bytealg.CountString", "internal/bytealg.IndexByteString", "internal/bytealg.IndexString"], named := ["unicode/utf8.first", "unicode/utf8.acceptRanges", "internal/bytealg.MaxLen"], apart := false, laid := [("unicode/utf8.acceptRanges", laid_unicode_utf8_acceptRanges), ("unicode/utf8.first", laid_unicode_utf8_first)], narrowed := true }
def FoldJoinsUptoSaid : Prop := foldJoinsUptoRow.holds Tryd.pinned (OpenSpec.upto foldJoinsSpec)

/-- 'voklaw4.FoldBack', WHERE WHAT IT READS IS OF BULK AT MOST 1048576: true; the input reads as it did. -/
def foldBackUptoRow : OpenClaim := { program := "ytlfiapleboklcaadoor", sum := "1854b8d4ef8d3133899323f9ab1fcd2b9edd59576bd9f917c81530050debc7dd", func := "convoker/voklaw4.FoldBack", spec := "foldBack", inPlace := ["internal/bytealg.CountString", "internal/bytealg.IndexByteString", "internal/bytealg.IndexString"], named := ["unicode/utf8.first", "unicode/utf8.acceptRanges", "internal/bytealg.MaxLen"], apart := false, laid := [("unicode/utf8.acceptRanges", laid_unicode_utf8_acceptRanges), ("unicode/utf8.first", laid_unicode_utf8_first)], narrowed := true }
def FoldBackUptoSaid : Prop := foldBackUptoRow.holds Tryd.pinned (OpenSpec.upto foldBackSpec)

end Rows
end Go.Proofs.YtlfiapleboklcaaDoor
