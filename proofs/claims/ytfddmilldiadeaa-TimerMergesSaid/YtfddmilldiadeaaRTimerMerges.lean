/-
TimerMerges returns true at every input: the law's row, out of what its code comes to (YtfddmilldiadeaaK0 ..) and the plain law (YtfddmilldiadeaaTmMerges).
No condition but the statement's own. (This session's own text, printed by its program.)
-/
import Derived.Test.YtfddmilldiadeaaTmMerges
import Derived.Test.YtfddmilldiadeaaRows
set_option linter.unusedVariables false
set_option linter.unusedSimpArgs false
namespace Go.GV.Ytfddmilldiadeaa.RTimerMerges
open Go.Proofs Go.Proofs.Ytfddmilldiadeaa
set_option maxRecDepth 1000000
theorem own : ownKnob Try.prog.godebug = none := by kernel_rfl
theorem laidOut : laidOutB Try.prog = true := by kernel_rfl
theorem hD : look E.fn 3 = some c3 := by kernel_rfl
theorem hc : c3.body = some b3 := by kernel_rfl
theorem law (x : (c3).par.T.D) (ok : (c3).par.T.Ok x) : FnB Try.prog (fun _ => False) (fun _ => True) c3 x (true, ()) :=
  law_ok env_ok mix rfl cards stable_none stubs (f := 3) hD hc (Eq.trans (b := voklaw11_TimerMerges.f x.1) (by kernel_rfl) ((TimerMerges_pure x.1).trans (by kernel_rfl)))
theorem contract (H : Type) (enc : TypeId × Value → H) (W : World) (base : Nat) (args : Array Value) (ds gs : List (DataW H)) (before : List MemPlace)
    (hval : ∀ (j : Nat) t v, Try.f3.params[j]? = some t → args[j]? = some v → Value.okWide Try.prog W .any base t v)
    (hW : DataW.Whole enc Try.prog Try.f3.params.toList Rows.timerMergesSpec.vars false W args.toList ds gs before) :
    Calls Try.prog 3 args W fun e W' => ∃ v, e = .returned v ∧ Rows.timerMergesSpec.post enc Try.prog Try.f3 false true false false W args v W' :=
  law_contract (par := c3.par) (n := c3.n) (rv := c3.rv) (body := c3.body) (an := c3.an) laidOut (by kernel_rfl) (T := 4) rfl rfl Try.underlying4 rfl (by kernel_rfl)
    (fun ds h => by
      rw [List.append_nil]
      match ds, h with
      | [d0], _ => rfl) (fun x ok => ⟨(), law x ok⟩) W base args ds gs before hval hW
noncomputable def laidWorld (os : Os) : World := World.holding Try.prog os ⟨#[], #[], []⟩
theorem laid_met (os : Os) : laidMet Try.prog Rows.timerMergesRow.laid ((laidWorld os).forCall (fun _ _ => 0) ⟨#[], #[.slice none 0 0], []⟩).memory :=
  laidMet_of_run' 8 (by kernel_rfl) (by kernel_rfl)
theorem reads (os : Os) {H : Type} (enc : TypeId × Value → H) : ∃ places, DataW.whole enc Try.prog ((laidWorld os).forCall (fun _ _ => 0) ⟨#[], #[.slice none 0 0], []⟩).memory Try.f3.params.toList Rows.timerMergesSpec.vars false (#[.slice none 0 0] : Array Value).toList 8 = some ([.nil], [], places) :=
  ⟨[], by kernel_rfl⟩
theorem lifted (os : Os) (started : os.Started) (H : Type) (enc : TypeId × Value → H) (F : Stop.Interp) :
    ReturnsInHanded {} Try.checked os 3 .any ((OpenSpec.ofChange Rows.timerMergesSpec).preRow enc Try.prog Try.f3 Rows.timerMergesRow.domain false Rows.timerMergesRow.laid) (((OpenSpec.ofChange Rows.timerMergesSpec).at F).post enc Try.prog Try.f3 false true false false) := by
  obtain ⟨places, hx⟩ := reads os enc
  refine returnsInHanded_of_row (C := Try.checked) (s := OpenSpec.ofChange Rows.timerMergesSpec) own started (by kernel_rfl) Try.func3
    (witness_row_at (enc := enc) (C := Try.checked) false (laidWorld os) #[.slice none 0 0] rfl (by kernel_rfl) (by kernel_rfl) (by kernel_rfl)
      (OpenSpec.preRow_of_cond 8 hx (by kernel_rfl) (fun k hk => by cases hk) (by kernel_rfl) (laid_met os))) ?_
  intro W base args ds gs before hval hW _ _ _ _ _ _
  exact contract H enc W base args ds gs before hval hW
theorem said : Rows.TimerMergesSaid :=
  OpenClaim.holds_of_cond 3 Try.f3 rfl rfl rfl rfl rfl rfl rfl ⟨rfl, rfl, rfl, rfl, rfl⟩ rfl rfl rfl rfl rfl (by kernel_rfl) Try.func3 (by kernel_rfl)
    (of_decide_eq_true (by kernel_rfl)) (by unfold Func.isWrapper; first | (rw [if_pos (by decide +kernel)]; kernel_rfl) | (rw [if_neg (by decide +kernel)]; exact ⟨rfl, rfl⟩))
    (fun os started H enc _ F => by rw [OpenClaim.pre_eq_preRow]; exact lifted os started H enc F)
end Go.GV.Ytfddmilldiadeaa.RTimerMerges
namespace Go.Proofs.Ytfddmilldiadeaa
theorem timerMerges_said : Rows.TimerMergesSaid := Go.GV.Ytfddmilldiadeaa.RTimerMerges.said
#print axioms timerMerges_said
end Go.Proofs.Ytfddmilldiadeaa
