/-
TimerOrder returns true at every input: the law's row, out of what its code comes to (YtfddmilldiadeaaK0 ..) and the plain law (YtfddmilldiadeaaTmOrder).
No condition but the statement's own. (This session's own text, printed by its program.)
-/
import Derived.Test.YtfddmilldiadeaaTmOrder
import Derived.Test.YtfddmilldiadeaaRows
set_option linter.unusedVariables false
set_option linter.unusedSimpArgs false
namespace Go.GV.Ytfddmilldiadeaa.RTimerOrder
open Go.Proofs Go.Proofs.Ytfddmilldiadeaa
set_option maxRecDepth 1000000
theorem own : ownKnob Try.prog.godebug = none := by kernel_rfl
theorem laidOut : laidOutB Try.prog = true := by kernel_rfl
theorem hD : look E.fn 6 = some c6 := by kernel_rfl
theorem hc : c6.body = some b6 := by kernel_rfl
theorem law (x : (c6).par.T.D) (ok : (c6).par.T.Ok x) : FnB Try.prog (fun _ => False) (fun _ => True) c6 x (true, ()) :=
  law_ok env_ok mix rfl cards stable_none stubs (f := 6) hD hc (Eq.trans (b := voklaw11_TimerOrder.f x.1 x.2.1) (by kernel_rfl) ((TimerOrder_pure x.1 x.2.1).trans (by kernel_rfl)))
theorem contract (H : Type) (enc : TypeId × Value → H) (W : World) (base : Nat) (args : Array Value) (ds gs : List (DataW H)) (before : List MemPlace)
    (hval : ∀ (j : Nat) t v, Try.f6.params[j]? = some t → args[j]? = some v → Value.okWide Try.prog W .any base t v)
    (hW : DataW.Whole enc Try.prog Try.f6.params.toList Rows.timerOrderSpec.vars false W args.toList ds gs before) :
    Calls Try.prog 6 args W fun e W' => ∃ v, e = .returned v ∧ Rows.timerOrderSpec.post enc Try.prog Try.f6 false true false false W args v W' :=
  law_contract (par := c6.par) (n := c6.n) (rv := c6.rv) (body := c6.body) (an := c6.an) laidOut (by kernel_rfl) (T := 4) rfl rfl Try.underlying4 rfl (by kernel_rfl)
    (fun ds h => by
      rw [List.append_nil]
      match ds, h with
      | [d0, d1], _ => rfl) (fun x ok => ⟨(), law x ok⟩) W base args ds gs before hval hW
noncomputable def laidWorld (os : Os) : World := World.holding Try.prog os ⟨#[], #[], []⟩
theorem laid_met (os : Os) : laidMet Try.prog Rows.timerOrderRow.laid ((laidWorld os).forCall (fun _ _ => 0) ⟨#[], #[.slice none 0 0, .int .i64 0], []⟩).memory :=
  laidMet_of_run' 8 (by kernel_rfl) (by kernel_rfl)
theorem reads (os : Os) {H : Type} (enc : TypeId × Value → H) : ∃ places, DataW.whole enc Try.prog ((laidWorld os).forCall (fun _ _ => 0) ⟨#[], #[.slice none 0 0, .int .i64 0], []⟩).memory Try.f6.params.toList Rows.timerOrderSpec.vars false (#[.slice none 0 0, .int .i64 0] : Array Value).toList 8 = some ([.nil, .lit (.int .i64 0)], [], places) :=
  ⟨[], by kernel_rfl⟩
theorem lifted (os : Os) (started : os.Started) (H : Type) (enc : TypeId × Value → H) (F : Stop.Interp) :
    ReturnsInHanded {} Try.checked os 6 .any ((OpenSpec.ofChange Rows.timerOrderSpec).preRow enc Try.prog Try.f6 Rows.timerOrderRow.domain false Rows.timerOrderRow.laid) (((OpenSpec.ofChange Rows.timerOrderSpec).at F).post enc Try.prog Try.f6 false true false false) := by
  obtain ⟨places, hx⟩ := reads os enc
  refine returnsInHanded_of_row (C := Try.checked) (s := OpenSpec.ofChange Rows.timerOrderSpec) own started (by kernel_rfl) Try.func6
    (witness_row_at (enc := enc) (C := Try.checked) false (laidWorld os) #[.slice none 0 0, .int .i64 0] rfl (by kernel_rfl) (by kernel_rfl) (by kernel_rfl)
      (OpenSpec.preRow_of_cond 8 hx (by kernel_rfl) (fun k hk => by cases hk) (by kernel_rfl) (laid_met os))) ?_
  intro W base args ds gs before hval hW _ _ _ _ _ _
  exact contract H enc W base args ds gs before hval hW
theorem said : Rows.TimerOrderSaid :=
  OpenClaim.holds_of_cond 6 Try.f6 rfl rfl rfl rfl rfl rfl rfl ⟨rfl, rfl, rfl, rfl, rfl⟩ rfl rfl rfl rfl rfl (by kernel_rfl) Try.func6 (by kernel_rfl)
    (of_decide_eq_true (by kernel_rfl)) (by unfold Func.isWrapper; first | (rw [if_pos (by decide +kernel)]; kernel_rfl) | (rw [if_neg (by decide +kernel)]; exact ⟨rfl, rfl⟩))
    (fun os started H enc _ F => by rw [OpenClaim.pre_eq_preRow]; exact lifted os started H enc F)
end Go.GV.Ytfddmilldiadeaa.RTimerOrder
namespace Go.Proofs.Ytfddmilldiadeaa
theorem timerOrder_said : Rows.TimerOrderSaid := Go.GV.Ytfddmilldiadeaa.RTimerOrder.said
#print axioms timerOrder_said
end Go.Proofs.Ytfddmilldiadeaa
