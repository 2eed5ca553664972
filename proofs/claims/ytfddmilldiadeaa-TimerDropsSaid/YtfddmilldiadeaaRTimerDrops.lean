/-
TimerDrops returns true at every input: the law's row, out of what its code comes to (YtfddmilldiadeaaK0 ..) and the plain law (YtfddmilldiadeaaTmDrops).
No condition but the statement's own. (This session's own text, printed by its program.)
-/
import Derived.Test.YtfddmilldiadeaaTmDrops
import Derived.Test.YtfddmilldiadeaaRows
set_option linter.unusedVariables false
set_option linter.unusedSimpArgs false
namespace Go.GV.Ytfddmilldiadeaa.RTimerDrops
open Go.Proofs Go.Proofs.Ytfddmilldiadeaa
set_option maxRecDepth 1000000
theorem own : ownKnob Try.prog.godebug = none := by kernel_rfl
theorem laidOut : laidOutB Try.prog = true := by kernel_rfl
theorem hD : look E.fn 8 = some c8 := by kernel_rfl
theorem hc : c8.body = some b8 := by kernel_rfl
theorem law (x : (c8).par.T.D) (ok : (c8).par.T.Ok x) : FnB Try.prog (fun _ => False) (fun _ => True) c8 x (true, ()) :=
  law_ok env_ok mix rfl cards stable_none stubs (f := 8) hD hc (Eq.trans (b := voklaw11_TimerDrops.f x.1 x.2.1) (by kernel_rfl) ((TimerDrops_pure x.1 x.2.1).trans (by kernel_rfl)))
theorem contract (H : Type) (enc : TypeId × Value → H) (W : World) (base : Nat) (args : Array Value) (ds gs : List (DataW H)) (before : List MemPlace)
    (hval : ∀ (j : Nat) t v, Try.f8.params[j]? = some t → args[j]? = some v → Value.okWide Try.prog W .any base t v)
    (hW : DataW.Whole enc Try.prog Try.f8.params.toList Rows.timerDropsSpec.vars false W args.toList ds gs before) :
    Calls Try.prog 8 args W fun e W' => ∃ v, e = .returned v ∧ Rows.timerDropsSpec.post enc Try.prog Try.f8 false true false false W args v W' :=
  law_contract (par := c8.par) (n := c8.n) (rv := c8.rv) (body := c8.body) (an := c8.an) laidOut (by kernel_rfl) (T := 4) rfl rfl Try.underlying4 rfl (by kernel_rfl)
    (fun ds h => by
      rw [List.append_nil]
      match ds, h with
      | [d0, d1], _ => rfl) (fun x ok => ⟨(), law x ok⟩) W base args ds gs before hval hW
noncomputable def laidWorld (os : Os) : World := World.holding Try.prog os ⟨#[], #[], []⟩
theorem laid_met (os : Os) : laidMet Try.prog Rows.timerDropsRow.laid ((laidWorld os).forCall (fun _ _ => 0) ⟨#[], #[.slice none 0 0, .int .i64 0], []⟩).memory :=
  laidMet_of_run' 8 (by kernel_rfl) (by kernel_rfl)
theorem reads (os : Os) {H : Type} (enc : TypeId × Value → H) : ∃ places, DataW.whole enc Try.prog ((laidWorld os).forCall (fun _ _ => 0) ⟨#[], #[.slice none 0 0, .int .i64 0], []⟩).memory Try.f8.params.toList Rows.timerDropsSpec.vars false (#[.slice none 0 0, .int .i64 0] : Array Value).toList 8 = some ([.nil, .lit (.int .i64 0)], [], places) :=
  ⟨[], by kernel_rfl⟩
theorem lifted (os : Os) (started : os.Started) (H : Type) (enc : TypeId × Value → H) (F : Stop.Interp) :
    ReturnsInHanded {} Try.checked os 8 .any ((OpenSpec.ofChange Rows.timerDropsSpec).preRow enc Try.prog Try.f8 Rows.timerDropsRow.domain false Rows.timerDropsRow.laid) (((OpenSpec.ofChange Rows.timerDropsSpec).at F).post enc Try.prog Try.f8 false true false false) := by
  obtain ⟨places, hx⟩ := reads os enc
  refine returnsInHanded_of_row (C := Try.checked) (s := OpenSpec.ofChange Rows.timerDropsSpec) own started (by kernel_rfl) Try.func8
    (witness_row_at (enc := enc) (C := Try.checked) false (laidWorld os) #[.slice none 0 0, .int .i64 0] rfl (by kernel_rfl) (by kernel_rfl) (by kernel_rfl)
      (OpenSpec.preRow_of_cond 8 hx (by kernel_rfl) (fun k hk => by cases hk) (by kernel_rfl) (laid_met os))) ?_
  intro W base args ds gs before hval hW _ _ _ _ _ _
  exact contract H enc W base args ds gs before hval hW
theorem said : Rows.TimerDropsSaid :=
  OpenClaim.holds_of_cond 8 Try.f8 rfl rfl rfl rfl rfl rfl rfl ⟨rfl, rfl, rfl, rfl, rfl⟩ rfl rfl rfl rfl rfl (by kernel_rfl) Try.func8 (by kernel_rfl)
    (of_decide_eq_true (by kernel_rfl)) (by unfold Func.isWrapper; first | (rw [if_pos (by decide +kernel)]; kernel_rfl) | (rw [if_neg (by decide +kernel)]; exact ⟨rfl, rfl⟩))
    (fun os started H enc _ F => by rw [OpenClaim.pre_eq_preRow]; exact lifted os started H enc F)
end Go.GV.Ytfddmilldiadeaa.RTimerDrops
namespace Go.Proofs.Ytfddmilldiadeaa
theorem timerDrops_said : Rows.TimerDropsSaid := Go.GV.Ytfddmilldiadeaa.RTimerDrops.said
#print axioms timerDrops_said
end Go.Proofs.Ytfddmilldiadeaa
