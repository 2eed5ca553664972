/-
TimerPlays returns true at every input: the law's row, out of what its code comes to (YtfddmilldiadeaaK0 ..) and the plain law (YtfddmilldiadeaaTmPlays).
No condition but the statement's own. (This session's own text, printed by its program.)
-/
import Derived.Test.YtfddmilldiadeaaTmPlays
import Derived.Test.YtfddmilldiadeaaRows
set_option linter.unusedVariables false
set_option linter.unusedSimpArgs false
namespace Go.GV.Ytfddmilldiadeaa.RTimerPlays
open Go.Proofs Go.Proofs.Ytfddmilldiadeaa
set_option maxRecDepth 1000000
theorem own : ownKnob Try.prog.godebug = none := by kernel_rfl
theorem laidOut : laidOutB Try.prog = true := by kernel_rfl
theorem hD : look E.fn 7 = some c7 := by kernel_rfl
theorem hc : c7.body = some b7 := by kernel_rfl
theorem law (x : (c7).par.T.D) (ok : (c7).par.T.Ok x) : FnB Try.prog (fun _ => False) (fun _ => True) c7 x (true, ()) :=
  law_ok env_ok mix rfl cards stable_none stubs (f := 7) hD hc (Eq.trans (b := voklaw11_TimerPlays.f x.1) (by kernel_rfl) ((TimerPlays_pure x.1).trans (by kernel_rfl)))
theorem contract (H : Type) (enc : TypeId × Value → H) (W : World) (base : Nat) (args : Array Value) (ds gs : List (DataW H)) (before : List MemPlace)
    (hval : ∀ (j : Nat) t v, Try.f7.params[j]? = some t → args[j]? = some v → Value.okWide Try.prog W .any base t v)
    (hW : DataW.Whole enc Try.prog Try.f7.params.toList Rows.timerPlaysSpec.vars false W args.toList ds gs before) :
    Calls Try.prog 7 args W fun e W' => ∃ v, e = .returned v ∧ Rows.timerPlaysSpec.post enc Try.prog Try.f7 false true false false W args v W' :=
  law_contract (par := c7.par) (n := c7.n) (rv := c7.rv) (body := c7.body) (an := c7.an) laidOut (by kernel_rfl) (T := 4) rfl rfl Try.underlying4 rfl (by kernel_rfl)
    (fun ds h => by
      rw [List.append_nil]
      match ds, h with
      | [d0], _ => rfl) (fun x ok => ⟨(), law x ok⟩) W base args ds gs before hval hW
noncomputable def laidWorld (os : Os) : World := World.holding Try.prog os ⟨#[], #[], []⟩
theorem laid_met (os : Os) : laidMet Try.prog Rows.timerPlaysRow.laid ((laidWorld os).forCall (fun _ _ => 0) ⟨#[], #[.slice none 0 0], []⟩).memory :=
  laidMet_of_run' 8 (by kernel_rfl) (by kernel_rfl)
theorem reads (os : Os) {H : Type} (enc : TypeId × Value → H) : ∃ places, DataW.whole enc Try.prog ((laidWorld os).forCall (fun _ _ => 0) ⟨#[], #[.slice none 0 0], []⟩).memory Try.f7.params.toList Rows.timerPlaysSpec.vars false (#[.slice none 0 0] : Array Value).toList 8 = some ([.nil], [], places) :=
  ⟨[], by kernel_rfl⟩
theorem lifted (os : Os) (started : os.Started) (H : Type) (enc : TypeId × Value → H) (F : Stop.Interp) :
    ReturnsInHanded {} Try.checked os 7 .any ((OpenSpec.ofChange Rows.timerPlaysSpec).preRow enc Try.prog Try.f7 Rows.timerPlaysRow.domain false Rows.timerPlaysRow.laid) (((OpenSpec.ofChange Rows.timerPlaysSpec).at F).post enc Try.prog Try.f7 false true false false) := by
  obtain ⟨places, hx⟩ := reads os enc
  refine returnsInHanded_of_row (C := Try.checked) (s := OpenSpec.ofChange Rows.timerPlaysSpec) own started (by kernel_rfl) Try.func7
    (witness_row_at (enc := enc) (C := Try.checked) false (laidWorld os) #[.slice none 0 0] rfl (by kernel_rfl) (by kernel_rfl) (by kernel_rfl)
      (OpenSpec.preRow_of_cond 8 hx (by kernel_rfl) (fun k hk => by cases hk) (by kernel_rfl) (laid_met os))) ?_
  intro W base args ds gs before hval hW _ _ _ _ _ _
  exact contract H enc W base args ds gs before hval hW
theorem said : Rows.TimerPlaysSaid :=
  OpenClaim.holds_of_cond 7 Try.f7 rfl rfl rfl rfl rfl rfl rfl ⟨rfl, rfl, rfl, rfl, rfl⟩ rfl rfl rfl rfl rfl (by kernel_rfl) Try.func7 (by kernel_rfl)
    (of_decide_eq_true (by kernel_rfl)) (by unfold Func.isWrapper; first | (rw [if_pos (by decide +kernel)]; kernel_rfl) | (rw [if_neg (by decide +kernel)]; exact ⟨rfl, rfl⟩))
    (fun os started H enc _ F => by rw [OpenClaim.pre_eq_preRow]; exact lifted os started H enc F)
end Go.GV.Ytfddmilldiadeaa.RTimerPlays
namespace Go.Proofs.Ytfddmilldiadeaa
theorem timerPlays_said : Rows.TimerPlaysSaid := Go.GV.Ytfddmilldiadeaa.RTimerPlays.said
#print axioms timerPlays_said
end Go.Proofs.Ytfddmilldiadeaa
