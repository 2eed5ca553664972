/-
FoldBack returns true at every input: the law's row, out of what its code comes to (YtlfiapleboklcaaDoorK0 ..) and the plain law (YtlfiapleboklcaaDoorFoldBack).
No condition but the statement's own. (This session's own text, printed by its program.)
-/
import Derived.Test.YtlfiapleboklcaaDoorFoldBack
import Derived.Test.YtlfiapleboklcaaDoorCards
import Derived.Test.YtlfiapleboklcaaDoorTie
set_option linter.unusedVariables false
set_option linter.unusedSimpArgs false
namespace Go.GV.YtlfiapleboklcaaDoor.RFoldBack
open Go.Proofs Go.Proofs.YtlfiapleboklcaaDoor
set_option maxRecDepth 1000000
theorem own : ownKnob Tryd.prog.godebug = none := by kernel_rfl
theorem laidOut : laidOutB Tryd.prog = true := by kernel_rfl
theorem hD : look E.fn 9 = some c9 := by kernel_rfl
theorem hc : c9.body = some b9 := by kernel_rfl
theorem law (x : (c9).par.T.D) (ok : (c9).par.T.Ok x) : FnB Tryd.prog (fun _ => False) (fun _ => True) c9 x (true, ()) :=
  law_ok env_ok mix rfl cards stable_none stubs (f := 9) hD hc (Eq.trans (b := voklaw4_FoldBack.f x.1) (by kernel_rfl) ((FoldBack_pure x.1 ok).trans (by kernel_rfl)))
theorem contract (H : Type) (enc : TypeId × Value → H) (W : World) (base : Nat) (args : Array Value) (ds gs : List (DataW H)) (before : List MemPlace)
    (hval : ∀ (j : Nat) t v, Tryd.f9.params[j]? = some t → args[j]? = some v → Value.okWide Tryd.prog W .any base t v)
    (hW : DataW.Whole enc Tryd.prog Tryd.f9.params.toList Rows.foldBackSpec.vars false W args.toList ds gs before) :
    Calls Tryd.prog 9 args W fun e W' => ∃ v, e = .returned v ∧ Rows.foldBackSpec.post enc Tryd.prog Tryd.f9 false true false false W args v W' :=
  law_contract (par := c9.par) (n := c9.n) (rv := c9.rv) (body := c9.body) (an := c9.an) laidOut (by kernel_rfl) (T := 4) rfl rfl Tryd.underlying4 rfl (by kernel_rfl)
    (fun ds h => by
      rw [List.append_nil]
      match ds, h with
      | [d0], _ => rfl) (fun x ok => ⟨(), law x ok⟩) W base args ds gs before hval hW
def lay0 : Obj → Obj
  | .cells _ t frozen => .cells (flatW (Rows.laid_unicode_utf8_acceptRanges (H := Unit))).toArray t frozen
  | o => o
def lay1 : Obj → Obj
  | .cells _ t frozen => .cells (flatW Rows.laid_unicode_utf8_first).toArray t frozen
  | o => o
noncomputable def laidWorld (os : Os) : World := { World.holding Tryd.prog os ⟨#[], #[], []⟩ with heap := (((World.holding Tryd.prog os ⟨#[], #[], []⟩).heap).modify ((Tryd.prog.globalNamed "unicode/utf8.acceptRanges").getD 0) lay0).modify ((Tryd.prog.globalNamed "unicode/utf8.first").getD 0) lay1 }
theorem laid_met (os : Os) : laidMet Tryd.prog Rows.foldBackRow.laid ((laidWorld os).forCall (fun _ _ => 0) ⟨#[], #[.slice none 0 0], []⟩).memory :=
  laidMet_of_run' 8 (by kernel_rfl) (by kernel_rfl)
theorem reads (os : Os) {H : Type} (enc : TypeId × Value → H) : ∃ places, DataW.whole enc Tryd.prog ((laidWorld os).forCall (fun _ _ => 0) ⟨#[], #[.slice none 0 0], []⟩).memory Tryd.f9.params.toList Rows.foldBackSpec.vars false (#[.slice none 0 0] : Array Value).toList 8 = some ([.nil], [], places) :=
  ⟨[], by kernel_rfl⟩
theorem lifted (os : Os) (started : os.Started) (H : Type) (enc : TypeId × Value → H) (F : Stop.Interp) :
    ReturnsInHanded {} Tryd.checked os 9 .any ((OpenSpec.ofChange Rows.foldBackSpec).preRow enc Tryd.prog Tryd.f9 Rows.foldBackRow.domain false Rows.foldBackRow.laid) (((OpenSpec.ofChange Rows.foldBackSpec).at F).post enc Tryd.prog Tryd.f9 false true false false) := by
  obtain ⟨places, hx⟩ := reads os enc
  refine returnsInHanded_of_row (C := Tryd.checked) (s := OpenSpec.ofChange Rows.foldBackSpec) own started (by kernel_rfl) Tryd.func9
    (witness_row_at (enc := enc) (C := Tryd.checked) false (laidWorld os) #[.slice none 0 0] rfl (by kernel_rfl) (by kernel_rfl) (by kernel_rfl)
      (OpenSpec.preRow_of_cond 8 hx (by kernel_rfl) (fun k hk => by cases hk) (by kernel_rfl) (laid_met os))) ?_
  intro W base args ds gs before hval hW _ _ _ _ _ _
  exact contract H enc W base args ds gs before hval hW
theorem said : Rows.FoldBackSaid :=
  OpenClaim.holds_of_cond 9 Tryd.f9 rfl rfl rfl rfl rfl rfl rfl ⟨rfl, rfl, rfl, rfl, rfl⟩ rfl rfl rfl rfl rfl (by kernel_rfl) Tryd.func9 (by kernel_rfl)
    (of_decide_eq_true (by kernel_rfl)) (by unfold Func.isWrapper; first | (rw [if_pos (by decide +kernel)]; kernel_rfl) | (rw [if_neg (by decide +kernel)]; exact ⟨rfl, rfl⟩))
    (fun os started H enc _ F => by rw [OpenClaim.pre_eq_preRow]; exact lifted os started H enc F)
theorem plain (f : FuncId) (fn : Func) (hf : Tryd.pinned.checked.prog.funcNamed "convoker/voklaw4.FoldBack" = some f) (hfn : Tryd.pinned.checked.prog.funcs[f]? = some fn) :
    false = Tryd.pinned.checked.prog.looks [] ∧ ∀ (j : Nat) t, fn.params[j]? = some t → Tryd.pinned.checked.prog.wantsStandIn t = false := by
  obtain rfl : f = 9 := Option.some.inj ((show Tryd.prog.funcNamed "convoker/voklaw4.FoldBack" = some 9 by kernel_rfl).symm.trans hf) |>.symm
  obtain rfl : fn = Tryd.f9 := (Option.some.inj (Tryd.func9.symm.trans hfn)).symm
  refine ⟨by kernel_rfl, fun j t ht => ?_⟩
  have hall : (Tryd.f9.params.toList.all fun t => !(Tryd.prog.wantsStandIn t)) = true := by kernel_rfl
  have hm : t ∈ Tryd.f9.params.toList := Array.mem_toList_iff.2 (Array.mem_of_getElem? ht)
  have hx := List.all_eq_true.1 hall t hm
  rw [Bool.not_eq_true'] at hx
  exact hx
theorem card : Rows.FoldBackCardSaid :=
  Claim7.holds_tied_plain_at .later [] _ _ _ _ said (fun _ h => by cases h) (by kernel_rfl) (fun _ h => by cases h) foldBack_row_tie rfl ⟨rfl, rfl⟩ (by kernel_rfl) rfl plain (by kernel_rfl)
end Go.GV.YtlfiapleboklcaaDoor.RFoldBack
namespace Go.Proofs.YtlfiapleboklcaaDoor
theorem foldBack_card : Rows.FoldBackCardSaid := Go.GV.YtlfiapleboklcaaDoor.RFoldBack.card
#print axioms foldBack_card
end Go.Proofs.YtlfiapleboklcaaDoor
