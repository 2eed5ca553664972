/-
FoldJoins returns true at every input: the law's row, out of what its code comes to (YtlfiapleboklcaaDoorK0 ..) and the plain law (YtlfiapleboklcaaDoorFoldJoin).
No condition but the statement's own. (This session's own text, printed by its program.)
-/
import Derived.Test.YtlfiapleboklcaaDoorFoldJoin
import Derived.Test.YtlfiapleboklcaaDoorCards
import Derived.Test.YtlfiapleboklcaaDoorTie
set_option linter.unusedVariables false
set_option linter.unusedSimpArgs false
namespace Go.GV.YtlfiapleboklcaaDoor.RFoldJoins
open Go.Proofs Go.Proofs.YtlfiapleboklcaaDoor
set_option maxRecDepth 1000000
theorem own : ownKnob Tryd.prog.godebug = none := by kernel_rfl
theorem laidOut : laidOutB Tryd.prog = true := by kernel_rfl
theorem hD : look E.fn 8 = some c8 := by kernel_rfl
theorem hc : c8.body = some b8 := by kernel_rfl
theorem law (x : (c8).par.T.D) (ok : (c8).par.T.Ok x) : FnB Tryd.prog (fun _ => False) (fun _ => True) c8 x (true, ()) :=
  law_ok env_ok mix rfl cards stable_none stubs (f := 8) hD hc (Eq.trans (b := voklaw4_FoldJoins.f x.1) (by kernel_rfl) ((FoldJoins_pure x.1 ok).trans (by kernel_rfl)))
theorem contract (H : Type) (enc : TypeId × Value → H) (W : World) (base : Nat) (args : Array Value) (ds gs : List (DataW H)) (before : List MemPlace)
    (hval : ∀ (j : Nat) t v, Tryd.f8.params[j]? = some t → args[j]? = some v → Value.okWide Tryd.prog W .any base t v)
    (hW : DataW.Whole enc Tryd.prog Tryd.f8.params.toList Rows.foldJoinsSpec.vars false W args.toList ds gs before) :
    Calls Tryd.prog 8 args W fun e W' => ∃ v, e = .returned v ∧ Rows.foldJoinsSpec.post enc Tryd.prog Tryd.f8 false true false false W args v W' :=
  law_contract (par := c8.par) (n := c8.n) (rv := c8.rv) (body := c8.body) (an := c8.an) laidOut (by kernel_rfl) (T := 4) rfl rfl Tryd.underlying4 rfl (by kernel_rfl)
    (fun ds h => by
      rw [List.append_nil]
      match ds, h with
      | [d0], _ => rfl) (fun x ok => ⟨(), law x ok⟩) W base args ds gs before hval hW
def lay0 : Obj → Obj
  | .cells _ t frozen => .cells (flatW (Rows.laid_unicode_utf8_acceptRanges (H := Unit))).toArray t frozen
  | o => o
def lay1 : Obj → Obj
  | .cells _ t frozen => .cells (flatW Rows.laid_unicode_utf8_first).toArray t frozen
  | o => o
noncomputable def laidWorld (os : Os) : World := { World.holding Tryd.prog os ⟨#[], #[], []⟩ with heap := (((World.holding Tryd.prog os ⟨#[], #[], []⟩).heap).modify ((Tryd.prog.globalNamed "unicode/utf8.acceptRanges").getD 0) lay0).modify ((Tryd.prog.globalNamed "unicode/utf8.first").getD 0) lay1 }
theorem laid_met (os : Os) : laidMet Tryd.prog Rows.foldJoinsRow.laid ((laidWorld os).forCall (fun _ _ => 0) ⟨#[], #[.slice none 0 0], []⟩).memory :=
  laidMet_of_run' 8 (by kernel_rfl) (by kernel_rfl)
theorem reads (os : Os) {H : Type} (enc : TypeId × Value → H) : ∃ places, DataW.whole enc Tryd.prog ((laidWorld os).forCall (fun _ _ => 0) ⟨#[], #[.slice none 0 0], []⟩).memory Tryd.f8.params.toList Rows.foldJoinsSpec.vars false (#[.slice none 0 0] : Array Value).toList 8 = some ([.nil], [], places) :=
  ⟨[], by kernel_rfl⟩
theorem lifted (os : Os) (started : os.Started) (H : Type) (enc : TypeId × Value → H) (F : Stop.Interp) :
    ReturnsInHanded {} Tryd.checked os 8 .any ((OpenSpec.ofChange Rows.foldJoinsSpec).preRow enc Tryd.prog Tryd.f8 Rows.foldJoinsRow.domain false Rows.foldJoinsRow.laid) (((OpenSpec.ofChange Rows.foldJoinsSpec).at F).post enc Tryd.prog Tryd.f8 false true false false) := by
  obtain ⟨places, hx⟩ := reads os enc
  refine returnsInHanded_of_row (C := Tryd.checked) (s := OpenSpec.ofChange Rows.foldJoinsSpec) own started (by kernel_rfl) Tryd.func8
    (witness_row_at (enc := enc) (C := Tryd.checked) false (laidWorld os) #[.slice none 0 0] rfl (by kernel_rfl) (by kernel_rfl) (by kernel_rfl)
      (OpenSpec.preRow_of_cond 8 hx (by kernel_rfl) (fun k hk => by cases hk) (by kernel_rfl) (laid_met os))) ?_
  intro W base args ds gs before hval hW _ _ _ _ _ _
  exact contract H enc W base args ds gs before hval hW
theorem said : Rows.FoldJoinsSaid :=
  OpenClaim.holds_of_cond 8 Tryd.f8 rfl rfl rfl rfl rfl rfl rfl ⟨rfl, rfl, rfl, rfl, rfl⟩ rfl rfl rfl rfl rfl (by kernel_rfl) Tryd.func8 (by kernel_rfl)
    (of_decide_eq_true (by kernel_rfl)) (by unfold Func.isWrapper; first | (rw [if_pos (by decide +kernel)]; kernel_rfl) | (rw [if_neg (by decide +kernel)]; exact ⟨rfl, rfl⟩))
    (fun os started H enc _ F => by rw [OpenClaim.pre_eq_preRow]; exact lifted os started H enc F)
theorem plain (f : FuncId) (fn : Func) (hf : Tryd.pinned.checked.prog.funcNamed "convoker/voklaw4.FoldJoins" = some f) (hfn : Tryd.pinned.checked.prog.funcs[f]? = some fn) :
    false = Tryd.pinned.checked.prog.looks [] ∧ ∀ (j : Nat) t, fn.params[j]? = some t → Tryd.pinned.checked.prog.wantsStandIn t = false := by
  obtain rfl : f = 8 := Option.some.inj ((show Tryd.prog.funcNamed "convoker/voklaw4.FoldJoins" = some 8 by kernel_rfl).symm.trans hf) |>.symm
  obtain rfl : fn = Tryd.f8 := (Option.some.inj (Tryd.func8.symm.trans hfn)).symm
  refine ⟨by kernel_rfl, fun j t ht => ?_⟩
  have hall : (Tryd.f8.params.toList.all fun t => !(Tryd.prog.wantsStandIn t)) = true := by kernel_rfl
  have hm : t ∈ Tryd.f8.params.toList := Array.mem_toList_iff.2 (Array.mem_of_getElem? ht)
  have hx := List.all_eq_true.1 hall t hm
  rw [Bool.not_eq_true'] at hx
  exact hx
theorem card : Rows.FoldJoinsCardSaid :=
  Claim7.holds_tied_plain_at .later [] _ _ _ _ said (fun _ h => by cases h) (by kernel_rfl) (fun _ h => by cases h) foldJoins_row_tie rfl ⟨rfl, rfl⟩ (by kernel_rfl) rfl plain (by kernel_rfl)
end Go.GV.YtlfiapleboklcaaDoor.RFoldJoins
namespace Go.Proofs.YtlfiapleboklcaaDoor
theorem foldJoins_card : Rows.FoldJoinsCardSaid := Go.GV.YtlfiapleboklcaaDoor.RFoldJoins.card
#print axioms foldJoins_card
end Go.Proofs.YtlfiapleboklcaaDoor
