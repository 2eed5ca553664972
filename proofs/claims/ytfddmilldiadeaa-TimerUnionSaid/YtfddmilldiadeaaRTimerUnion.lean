/-
TimerUnion returns true at every input: the law's row, out of what its code comes to (YtfddmilldiadeaaK0 ..) and the plain law (YtfddmilldiadeaaTmUnion).
No condition but the statement's own. (This session's own text, printed by its program.)
-/
import Derived.Test.YtfddmilldiadeaaTmUnion
import Derived.Test.YtfddmilldiadeaaRows
set_option linter.unusedVariables false
set_option linter.unusedSimpArgs false
namespace Go.GV.Ytfddmilldiadeaa.RTimerUnion
open Go.Proofs Go.Proofs.Ytfddmilldiadeaa
set_option maxRecDepth 1000000
theorem own : ownKnob Try.prog.godebug = none := by kernel_rfl
theorem laidOut : laidOutB Try.prog = true := by kernel_rfl
theorem hD : look E.fn 4 = some c4 := by kernel_rfl
theorem hc : c4.body = some b4 := by kernel_rfl
theorem law (x : (c4).par.T.D) (ok : (c4).par.T.Ok x) : FnB Try.prog (fun _ => False) (fun _ => True) c4 x (true, ()) :=
  law_ok env_ok mix rfl cards stable_none stubs (f := 4) hD hc (Eq.trans (b := voklaw11_TimerUnion.f x.1 x.2.1 x.2.2.1) (by kernel_rfl) ((TimerUnion_pure x.1 x.2.1 x.2.2.1).trans (by kernel_rfl)))
theorem contract (H : Type) (enc : TypeId × Value → H) (W : World) (base : Nat) (args : Array Value) (ds gs : List (DataW H)) (before : List MemPlace)
    (hval : ∀ (j : Nat) t v, Try.f4.params[j]? = some t → args[j]? = some v → Value.okWide Try.prog W .any base t v)
    (hW : DataW.Whole enc Try.prog Try.f4.params.toList Rows.timerUnionSpec.vars false W args.toList ds gs before) :
    Calls Try.prog 4 args W fun e W' => ∃ v, e = .returned v ∧ Rows.timerUnionSpec.post enc Try.prog Try.f4 false true false false W args v W' :=
  law_contract (par := c4.par) (n := c4.n) (rv := c4.rv) (body := c4.body) (an := c4.an) laidOut (by kernel_rfl) (T := 4) rfl rfl Try.underlying4 rfl (by kernel_rfl)
    (fun ds h => by
      rw [List.append_nil]
      match ds, h with
      | [d0, d1, d2], _ => rfl) (fun x ok => ⟨(), law x ok⟩) W base args ds gs before hval hW
noncomputable def laidWorld (os : Os) : World := World.holding Try.prog os ⟨#[], #[], []⟩
theorem laid_met (os : Os) : laidMet Try.prog Rows.timerUnionRow.laid ((laidWorld os).forCall (fun _ _ => 0) ⟨#[], #[.slice none 0 0, .slice none 0 0, .slice none 0 0], []⟩).memory :=
  laidMet_of_run' 8 (by kernel_rfl) (by kernel_rfl)
theorem reads (os : Os) {H : Type} (enc : TypeId × Value → H) : ∃ places, DataW.whole enc Try.prog ((laidWorld os).forCall (fun _ _ => 0) ⟨#[], #[.slice none 0 0, .slice none 0 0, .slice none 0 0], []⟩).memory Try.f4.params.toList Rows.timerUnionSpec.vars false (#[.slice none 0 0, .slice none 0 0, .slice none 0 0] : Array Value).toList 8 = some ([.nil, .nil, .nil], [], places) :=
  ⟨[], by kernel_rfl⟩
theorem lifted (os : Os) (started : os.Started) (H : Type) (enc : TypeId × Value → H) (F : Stop.Interp) :
    ReturnsInHanded {} Try.checked os 4 .any ((OpenSpec.ofChange Rows.timerUnionSpec).preRow enc Try.prog Try.f4 Rows.timerUnionRow.domain false Rows.timerUnionRow.laid) (((OpenSpec.ofChange Rows.timerUnionSpec).at F).post enc Try.prog Try.f4 false true false false) := by
  obtain ⟨places, hx⟩ := reads os enc
  refine returnsInHanded_of_row (C := Try.checked) (s := OpenSpec.ofChange Rows.timerUnionSpec) own started (by kernel_rfl) Try.func4
    (witness_row_at (enc := enc) (C := Try.checked) false (laidWorld os) #[.slice none 0 0, .slice none 0 0, .slice none 0 0] rfl (by kernel_rfl) (by kernel_rfl) (by kernel_rfl)
      (OpenSpec.preRow_of_cond 8 hx (by kernel_rfl) (fun k hk => by cases hk) (by kernel_rfl) (laid_met os))) ?_
  intro W base args ds gs before hval hW _ _ _ _ _ _
  exact contract H enc W base args ds gs before hval hW
theorem said : Rows.TimerUnionSaid :=
  OpenClaim.holds_of_cond 4 Try.f4 rfl rfl rfl rfl rfl rfl rfl ⟨rfl, rfl, rfl, rfl, rfl⟩ rfl rfl rfl rfl rfl (by kernel_rfl) Try.func4 (by kernel_rfl)
    (of_decide_eq_true (by kernel_rfl)) (by unfold Func.isWrapper; first | (rw [if_pos (by decide +kernel)]; kernel_rfl) | (rw [if_neg (by decide +kernel)]; exact ⟨rfl, rfl⟩))
    (fun os started H enc _ F => by rw [OpenClaim.pre_eq_preRow]; exact lifted os started H enc F)
end Go.GV.Ytfddmilldiadeaa.RTimerUnion
namespace Go.Proofs.Ytfddmilldiadeaa
theorem timerUnion_said : Rows.TimerUnionSaid := Go.GV.Ytfddmilldiadeaa.RTimerUnion.said
#print axioms timerUnion_said
end Go.Proofs.Ytfddmilldiadeaa
