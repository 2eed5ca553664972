/-
MeetSpans returns true at every input: the law's row, out of what its code comes to and the plain law.
No condition but the statement's own.
-/
import Derived.Test.YtegmfagkklekaaaGreatDoorFMeetSpansu
import Derived.Test.YtegmfagkklekaaaGreatDoorCards
import Derived.Test.YtegmfagkklekaaaGreatDoorTie
set_option linter.unusedVariables false
set_option linter.unusedSimpArgs false
namespace Go.GV.YtegmfagkklekaaaGreatDoor.RMeetSpans
open Go.Proofs Go.Proofs.YtegmfagkklekaaaGreatDoor
set_option maxRecDepth 1000000
theorem own : ownKnob Tryz.prog.godebug = none := by kernel_rfl
theorem laidOut : laidOutB Tryz.prog = true := by kernel_rfl
theorem hD : look E.fn 5 = some c5 := by kernel_rfl
theorem hc : c5.body = some b5 := by kernel_rfl
theorem law (x : (c5).par.T.D) (ok : (c5).par.T.Ok x) : FnB Tryz.prog GB G c5 x (true, ()) :=
 fA2 vA2 lC2 mix rfl iD2 stab hC2 (f := 5) hD hc (Eq.trans (b := gC.f x.1 x.2.1 x.2.2.1 x.2.2.2.1) (by kernel_rfl) ((aX x.1 x.2.1 x.2.2.1 x.2.2.2.1 ok).trans (by kernel_rfl)))
theorem contract (H : Type) (enc : TypeId × Value → H) (W : World) (base : Nat) (args : Array Value) (ds gs : List (DataW H)) (before : List MemPlace)
  (hval : ∀ (j : Nat) t v, Tryz.f5.params[j]? = some t → args[j]? = some v → Value.okWide Tryz.prog W .any base t v)
  (hW : DataW.Whole enc Tryz.prog Tryz.f5.params.toList Rows.meetSpansSpec.vars false W args.toList ds gs before) (hG : G W) (hGB : ∀ b, GB b → b < W.heap.size) :
  Calls Tryz.prog 5 args W fun e W' => ∃ v, e = .returned v ∧ Rows.meetSpansSpec.post enc Tryz.prog Tryz.f5 false true false false W args v W' :=
 jE1 (par := c5.par) (n := c5.n) (rv := c5.rv) (body := c5.body) (an := c5.an) laidOut (by kernel_rfl) (T := 4) rfl rfl Tryz.underlying4 rfl (by kernel_rfl)
  (fun ds h => by
   rw [zE2]
   match ds, h with
   | [d0, d1, d2, d3], _ => rfl) (fun x ok => ⟨(), law x ok⟩) W hG hGB base args ds gs before hval hW
theorem laid_of (W : World) (h : laidMetH Tryz.prog Rows.meetSpansRow.laid W) : laidMet Tryz.prog Rows.meetSpansRow.laid W := by
 unfold laidMetH at h
 have e : (Rows.meetSpansRow.laid.filter fun x => x.2.handleName?.isSome) = [] := by kernel_rfl
 rw [e] at h
 exact h
theorem glob (W : World) (h : laidMetH Tryz.prog Rows.meetSpansRow.laid W) : G W :=
 ⟨sS1 (i := 2) (laid_of W h) (by kernel_rfl) gtab (by kernel_rfl), kY (i := 5) (laid_of W h) (n := "strconv.ErrSyntax") rfl (by kernel_rfl) (by kernel_rfl), kY (i := 4) (laid_of W h) (n := "strconv.ErrRange") rfl (by kernel_rfl) (by kernel_rfl)⟩
theorem glob_lt (W : World) (h : laidMetH Tryz.prog Rows.meetSpansRow.laid W) : ∀ b, GB b → b < W.heap.size := eS1 gtab (glob W h)
def lay0 : Obj → Obj
 | .cells _ t frozen => .cells (gL1 (Rows.laid_math_bits_deBruijn32tab (H := Unit))).toArray t frozen
 | o => o
def lay1 : Obj → Obj
 | .cells _ t frozen => .cells (gL1 (Rows.laid_math_bits_deBruijn64tab (H := Unit))).toArray t frozen
 | o => o
def lay2 : Obj → Obj
 | .cells _ t frozen => .cells (gL1 (Rows.laid_internal_strconv_uint64pow10 (H := Unit))).toArray t frozen
 | o => o
def lay3 : Obj → Obj
 | .cells _ t frozen => .cells (gL1 (Rows.laid_unicode_utf8_acceptRanges (H := Unit))).toArray t frozen
 | o => o
noncomputable def lay4 : Obj → Obj
 | .cells _ t frozen => .cells #[.iface 305 (.pointer (some ⟨(World.holding Tryz.prog default ⟨#[], #[], []⟩).heap.size + 0, 0, none⟩))] t frozen
 | o => o
noncomputable def lay5 : Obj → Obj
 | .cells _ t frozen => .cells #[.iface 305 (.pointer (some ⟨(World.holding Tryz.prog default ⟨#[], #[], []⟩).heap.size + 1, 0, none⟩))] t frozen
 | o => o
def lay6 : Obj → Obj
 | .cells _ t frozen => .cells (gL1 Rows.laid_unicode_utf8_first).toArray t frozen
 | o => o
noncomputable def laidWorld (os : Os) : World := { World.holding Tryz.prog os ⟨#[], #[], []⟩ with heap := ((((((((World.holding Tryz.prog os ⟨#[], #[], []⟩).heap).modify ((Tryz.prog.globalNamed "math/bits.deBruijn32tab").getD 0) lay0).modify ((Tryz.prog.globalNamed "math/bits.deBruijn64tab").getD 0) lay1).modify ((Tryz.prog.globalNamed "internal/strconv.uint64pow10").getD 0) lay2).modify ((Tryz.prog.globalNamed "unicode/utf8.acceptRanges").getD 0) lay3).modify ((Tryz.prog.globalNamed "strconv.ErrRange").getD 0) lay4).modify ((Tryz.prog.globalNamed "strconv.ErrSyntax").getD 0) lay5).modify ((Tryz.prog.globalNamed "unicode/utf8.first").getD 0) lay6 |>.push (.cells #[.string ⟨#[118, 97, 108, 117, 101, 32, 111, 117, 116, 32, 111, 102, 32, 114, 97, 110, 103, 101]⟩] 307 (0, 0)) |>.push (.cells #[.string ⟨#[105, 110, 118, 97, 108, 105, 100, 32, 115, 121, 110, 116, 97, 120]⟩] 307 (0, 0)) }
theorem laid_met (os : Os) : laidMet Tryz.prog Rows.meetSpansRow.laid ((laidWorld os).forCall (fun _ _ => 0) ⟨#[], #[.agg #[.int .i64 0, .int .i64 0, .int .i64 0, .bool false, .int .i64 0, .int .i64 0, .int .i64 0, .int .i64 0, .int .i64 0, .bool false, .slice none 0 0, .slice none 0 0, .slice none 0 0, .slice none 0 0, .slice none 0 0, .slice none 0 0, .slice none 0 0, .slice none 0 0, .slice none 0 0, .slice none 0 0, .slice none 0 0], .slice none 0 0, .int .i64 0, .int .i64 0], []⟩).memory :=
 laidMet_of_run' 8 (by kernel_rfl) (by kernel_rfl)
theorem reads (os : Os) {H : Type} (enc : TypeId × Value → H) : ∃ places, DataW.whole enc Tryz.prog ((laidWorld os).forCall (fun _ _ => 0) ⟨#[], #[.agg #[.int .i64 0, .int .i64 0, .int .i64 0, .bool false, .int .i64 0, .int .i64 0, .int .i64 0, .int .i64 0, .int .i64 0, .bool false, .slice none 0 0, .slice none 0 0, .slice none 0 0, .slice none 0 0, .slice none 0 0, .slice none 0 0, .slice none 0 0, .slice none 0 0, .slice none 0 0, .slice none 0 0, .slice none 0 0], .slice none 0 0, .int .i64 0, .int .i64 0], []⟩).memory Tryz.f5.params.toList Rows.meetSpansSpec.vars false (#[.agg #[.int .i64 0, .int .i64 0, .int .i64 0, .bool false, .int .i64 0, .int .i64 0, .int .i64 0, .int .i64 0, .int .i64 0, .bool false, .slice none 0 0, .slice none 0 0, .slice none 0 0, .slice none 0 0, .slice none 0 0, .slice none 0 0, .slice none 0 0, .slice none 0 0, .slice none 0 0, .slice none 0 0, .slice none 0 0], .slice none 0 0, .int .i64 0, .int .i64 0] : Array Value).toList 8 = some ([.agg [.lit (.int .i64 0), .lit (.int .i64 0), .lit (.int .i64 0), .lit (.bool false), .agg [.lit (.int .i64 0), .lit (.int .i64 0), .lit (.int .i64 0), .lit (.int .i64 0), .lit (.int .i64 0), .lit (.bool false), .nil, .nil, .nil, .nil, .nil, .nil, .nil, .nil, .nil], .nil, .nil], .nil, .lit (.int .i64 0), .lit (.int .i64 0)], [], places) :=
 ⟨[], by kernel_rfl⟩
theorem lifted (os : Os) (started : os.Started) (H : Type) (enc : TypeId × Value → H) (F : Stop.Interp) :
  ReturnsInHanded {} Tryz.checked os 5 .any ((OpenSpec.ofChange Rows.meetSpansSpec).preRow enc Tryz.prog Tryz.f5 Rows.meetSpansRow.domain false Rows.meetSpansRow.laid) (((OpenSpec.ofChange Rows.meetSpansSpec).at F).post enc Tryz.prog Tryz.f5 false true false false) := by
 obtain ⟨places, hx⟩ := reads os enc
 refine returnsInHanded_of_row (C := Tryz.checked) (s := OpenSpec.ofChange Rows.meetSpansSpec) own started (by kernel_rfl) Tryz.func5
  (witness_row_at (enc := enc) (C := Tryz.checked) false (laidWorld os) #[.agg #[.int .i64 0, .int .i64 0, .int .i64 0, .bool false, .int .i64 0, .int .i64 0, .int .i64 0, .int .i64 0, .int .i64 0, .bool false, .slice none 0 0, .slice none 0 0, .slice none 0 0, .slice none 0 0, .slice none 0 0, .slice none 0 0, .slice none 0 0, .slice none 0 0, .slice none 0 0, .slice none 0 0, .slice none 0 0], .slice none 0 0, .int .i64 0, .int .i64 0] rfl (by kernel_rfl) (by kernel_rfl) (by kernel_rfl)
   (OpenSpec.preRow_of_cond 8 hx (by kernel_rfl) (fun k hk => by cases hk) (by kernel_rfl) (laid_met os))) ?_
 intro W base args ds gs before hval hW _ _ _ hl _ _
 exact contract H enc W base args ds gs before hval hW (glob W hl) (glob_lt W hl)
theorem said_p1 : (Rows.meetSpansRow.inPlace == Tryz.pinned.checked.prog.inPlace 5) = true := by kernel_rfl
theorem said_p2 : (Rows.meetSpansRow.unfollowed == Tryz.pinned.checked.prog.unfollowed 5) = true := by kernel_rfl
theorem said_p3 : (Rows.meetSpansRow.recurses == Tryz.pinned.checked.prog.recurses 5) = true := by kernel_rfl
theorem said_p4 : (Rows.meetSpansRow.named == Tryz.pinned.checked.prog.varsNamed 5) = true := by kernel_rfl
theorem said_c : joinedFacts Tryz.pinned.checked.prog 5 Tryz.f5 (OpenSpec.ofChange Rows.meetSpansSpec).bare Rows.meetSpansRow = true := by
 unfold joinedFacts
 rw [said_p1, said_p2, said_p3, said_p4]
 kernel_rfl
theorem said_n : Tryz.pinned.checked.prog.funcNamed Rows.meetSpansRow.func = some 5 := by kernel_rfl
theorem said : Rows.MeetSpansSaid :=
 OpenClaim.holds_of_cond 5 Tryz.f5 rfl rfl rfl rfl rfl rfl rfl ⟨rfl, rfl, rfl, rfl, rfl⟩ rfl rfl rfl rfl rfl said_n Tryz.func5 said_c
  (of_decide_eq_true (by kernel_rfl)) (by unfold Func.isWrapper; first | (rw [if_pos (by decide +kernel)]; kernel_rfl) | (rw [if_neg (by decide +kernel)]; exact ⟨rfl, rfl⟩))
  (fun os started H enc _ F => by rw [OpenClaim.pre_eq_preRow]; exact lifted os started H enc F)
theorem plain (f : FuncId) (fn : Func) (hf : Tryz.pinned.checked.prog.funcNamed "convoker/voklaw9.MeetSpans" = some f) (hfn : Tryz.pinned.checked.prog.funcs[f]? = some fn) :
  true = Tryz.pinned.checked.prog.looks [] ∧ ∀ (j : Nat) t, fn.params[j]? = some t → Tryz.pinned.checked.prog.wantsStandIn t = false := by
 obtain rfl : f = 5 := oF2 ((show Tryz.prog.funcNamed "convoker/voklaw9.MeetSpans" = some 5 by kernel_rfl).symm.trans hf) |>.symm
 obtain rfl : fn = Tryz.f5 := (oF2 (Tryz.func5.symm.trans hfn)).symm
 refine ⟨by kernel_rfl, fun j t ht => ?_⟩
 have hall : (Tryz.f5.params.toList.all fun t => !(Tryz.prog.wantsStandIn t)) = true := by kernel_rfl
 have hm : t ∈ Tryz.f5.params.toList := Array.mem_toList_iff.2 (Array.mem_of_getElem? ht)
 have hx := pG2.1 hall t hm
 rw [bG2] at hx
 exact hx
theorem card_w : Rows.meetSpansRow.wfByText (OpenSpec.ofChange Rows.meetSpansSpec) = true := by kernel_rfl
theorem card_g : false = Rows.meetSpansRow.goesBy Tryz.pinned.checked.prog := by kernel_rfl
theorem card : Rows.MeetSpansCardSaid :=
 Claim7.holds_tied_plain_at .later [] _ _ _ _ said (fun _ h => by cases h) card_w (fun _ h => by cases h) meetSpans_row_tie rfl ⟨rfl, rfl⟩ (by kernel_rfl) rfl plain card_g
end Go.GV.YtegmfagkklekaaaGreatDoor.RMeetSpans
namespace Go.Proofs.YtegmfagkklekaaaGreatDoor
theorem meetSpans_card : Rows.MeetSpansCardSaid := Go.GV.YtegmfagkklekaaaGreatDoor.RMeetSpans.card
#print axioms meetSpans_card
end Go.Proofs.YtegmfagkklekaaaGreatDoor
