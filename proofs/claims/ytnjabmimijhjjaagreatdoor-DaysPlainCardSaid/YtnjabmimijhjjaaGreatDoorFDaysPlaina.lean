/-
Part of the words that DaysPlain is proved with: no statement of its own, no conditions.
-/
import Derived.Test.YtnjabmimijhjjaaGreatDoorZ10
set_option linter.unusedVariables false
set_option linter.unusedSimpArgs false
namespace Go.GV.YtnjabmimijhjjaaGreatDoor
open Go.Proofs
theorem plain_may (f : Int) (b : Bool) (h : rule_May.f (f, 1, 0, 0, 0, false, [], [], [], [], [], [], [], [], [], ()) = some (b, ())) : b = true ↔ (1 ≤ f ∧ f ≤ 7) := by
 have hs : short ([] : List Int) [] [] [] ([] : List Dy) [] [] [] [] := by unfold short; simp
 have g := may_gate f 1 0 0 0 false [] [] [] [] [] [] [] [] [] hs
 have nilw : ∀ lo hi z, wi [] lo hi z := fun lo hi z => ⟨fun j hj => absurd hj (by simp), Nat.zero_le _⟩
 have nild : dwi [] := ⟨fun j hj => absurd hj (by simp), Nat.zero_le _⟩
 have hiff : mayP f 1 0 0 0 false [] [] [] [] [] [] [] [] [] ↔ (1 ≤ f ∧ f ≤ 7) := by
  unfold mayP numP listsP
  constructor
  ·exact fun q => ⟨q.1.1.1, q.1.1.2.1⟩
  ·intro q
   exact ⟨⟨⟨q.1, q.2, by omega, by omega, by omega, by omega, by omega, by omega⟩, (fun q => by cases q), fun _ => rfl⟩, ⟨nilw _ _ _, nilw _ _ _, nilw _ _ _, nilw _ _ _, nilw _ _ _, nilw _ _ _, nilw _ _ _, nilw _ _ _, nild, fun j hj => absurd hj (by simp)⟩, by simp, by simp, by simp⟩
 by_cases c : 1 ≤ f ∧ f ≤ 7
 ·have h5 := g.1 (hiff.2 c)
  rw [h, rule_May.l5_eq] at h5
  have hnil : (([] : List Int).length : Int) = 0 := rfl
  have hm1 : mm true (0 : Int) 1 = 1 := rfl
  simp (disch := omega) only [hnil, dn (show ¬ (0 : Int) > 0 by omega), cond_false, rule_May.l6_eq, rule_May.l7_eq, hm1] at h5
  have : b = true := by
   by_cases c4 : f > 4
   ·rw [dp c4] at h5
    exact (Prod.mk.inj (Option.some.inj h5)).1
   ·rw [dn c4] at h5
    have e : IntKind.i64.wrap (IntKind.i64.wrap (1 * 1) * 1) = 1 := by decide
    rw [e] at h5
    exact (Prod.mk.inj (Option.some.inj h5)).1
  exact ⟨fun _ => c, fun _ => this⟩
 ·have := g.2 fun q => c (hiff.1 q)
  rw [h] at this
  have e : b = false := (Prod.mk.inj (Option.some.inj this)).1
  rw [e]
  exact ⟨(fun q => by cases q), fun q => absurd q c⟩
theorem fitP_nil (f m0 d0 w0 n y m d : Int) : fitP f 0 [] [] [] [] [] m0 d0 w0 n y m d ↔ ((f = 1 ∧ d = d0 ∧ m = m0) ∨ (f = 2 ∧ d = d0) ∨ (f = 3 ∧ wk n = w0) ∨ (f ≠ 1 ∧ f ≠ 2 ∧ f ≠ 3)) := by
 unfold fitP hasP wdP stP wkP
 simp
theorem DaysPlain_pure (f s n : Int) : voklaw6_DaysPlain.f f s n = some (true, ()) := by
 have hs : shortR (f, 1, 0, 0, 0, false, [], [], [], [], [], [], [], [], [], ()) := by unfold shortR short; simp
 obtain ⟨b, hb⟩ := may_some _ hs
 have hbi := plain_may f b hb
 obtain ⟨q, sec, hD⟩ := day_some s
 have hS := (may_mo s).1
 have no : ∀ (a b' c d' e' g' : Int), ¬ (b = true ∧ inT s) → voklaw6_DaysPlain.l1 f s n q a b' c d' e' true f 1 0 0 0 false = some (true, ()) := fun a b' c d' e' g' h => by
  have hF := fits_no (f, 1, 0, 0, 0, false, [], [], [], [], [], [], [], [], [], ()) s n b hb h
  rw [voklaw6_DaysPlain.l1_eq, cond_true, first_true]
  simp only [Option.bind_some, cond_true]
  rw [hF]
  rfl
 have out : ∀ (a b' c d' e' : Int), ¬ (-719162 ≤ n ∧ n ≤ 2932896) → voklaw6_DaysPlain.l1 f s n q a b' c d' e' true f 1 0 0 0 false = some (true, ()) := fun a b' c d' e' h => by
  by_cases hh : b = true ∧ inT s
  ·have hM := hb
   rw [hh.1] at hM
   have hF := fits_out f 1 0 0 0 false [] [] [] [] [] [] [] [] [] s n hM hh.2 h
   rw [voklaw6_DaysPlain.l1_eq, cond_true, first_true]
   simp only [Option.bind_some, cond_true]
   rw [hF]
   rfl
  ·exact no a b' c d' e' 0 hh
 rw [voklaw6_DaysPlain.f_eq, first_true]
 simp only [Option.bind_some, Bool.not_true, cond_false]
 rw [hD]
 simp only [Option.bind_some]
 rcases date_both n with ⟨y, m, d, h, e⟩ | ⟨h, e⟩
 ·rw [e]
  simp only [Option.bind_some]
  rcases date_both q with ⟨y0, m0, d0, h0, e0⟩ | ⟨h0, e0⟩
  ·rw [e0]
   by_cases ht : inT s
   ·have hM : stamp_May.f s = some (true, ()) := by rw [hS, dp ht]
    have hq : q = s / 86400 := by
     have := (mday_spec s (by unfold inT at ht; omega) (by unfold inT at ht; omega)).1
     rw [hD] at this
     exact (Prod.mk.inj (Option.some.inj this)).1
    by_cases cf : 1 ≤ f ∧ f ≤ 7
    ·have hbt := hbi.2 cf
     rw [hbt] at hb
     have e0' := e0
     rw [hq] at e0'
     have hT := (fits_tells f 1 0 0 0 false [] [] [] [] [] [] [] [] [] s n hs hb ht y0 m0 d0 e0' y m d h e).iff (fitP_nil f m0 d0 (wk (s / 86400)) n y m d)
     obtain ⟨v, hv, ev⟩ := hT
     obtain ⟨v1, _⟩ := valid_iff.1 h.1
     have l2 : ∀ w : Bool, w = v → voklaw6_DaysPlain.l2 s n y w f 1 0 0 0 false = some (true, ()) := fun w hw => by
      subst hw
      rw [voklaw6_DaysPlain.l2_eq, first_true]
      simp (disch := omega) only [ss, cond_true, cond_false, Option.bind_some, hv, beq_self_eq_true, ge_iff_le]
     have bb : ∀ (p : Prop) [Decidable p], (p ↔ v = true) → decide p = v := fun p _ hp => by
      cases v with
      | true => exact dp (hp.2 rfl)
      | false => exact dn fun q => by have := hp.1 q; cases this
     simp (disch := omega) only [ss, cond_true, cond_false, Option.bind_some, hM, gt_iff_lt, voklaw6_DaysPlain.l1_eq]
     by_cases f1 : f = 1
     ·by_cases cm : m = m0
      ·simp (disch := omega) only [ss, cond_true, cond_false, Option.bind_some]
       exact l2 _ (bb _ (by rw [ev]; subst f1; simp [cm]))
      ·simp (disch := omega) only [ss, cond_true, cond_false, Option.bind_some]
       exact l2 _ (by cases v with
        | false => rfl
        | true => have := ev.1 rfl; subst f1; simp [cm] at this)
     ·by_cases f2 : f = 2
      ·simp (disch := omega) only [ss, cond_true, cond_false, Option.bind_some]
       exact l2 _ (bb _ (by rw [ev]; subst f2; simp))
      ·by_cases f3 : f = 3
       ·simp (disch := omega) only [ss, cond_true, cond_false, Option.bind_some]
        rw [weekday_spec]
        simp only [Option.bind_some]
        rw [weekday_spec]
        simp only [Option.bind_some]
        exact l2 _ (bb _ (by rw [ev, hq]; subst f3; simp))
       ·simp (disch := omega) only [ss, cond_true, cond_false, Option.bind_some]
        exact l2 _ ((ev.2 (.inr (.inr (.inr ⟨f1, f2, f3⟩)))).symm)
    ·have hbf : ¬ (b = true ∧ inT s) := fun q => cf (hbi.1 q.1)
     by_cases c1 : f < 1
     ·simp (disch := omega) only [ss, cond_true, cond_false, Option.bind_some, hM, no _ _ _ _ _ 0 hbf]
     ·have c2 : f > 7 := by omega
      simp (disch := omega) only [ss, cond_true, cond_false, Option.bind_some, hM, no _ _ _ _ _ 0 hbf]
   ·have hM : stamp_May.f s = some (false, ()) := by rw [hS, dn ht]
    simp (disch := omega) only [ss, cond_true, cond_false, Option.bind_some, hM, no _ _ _ _ _ 0 (fun q => ht q.2)]
  ·rw [e0]
   have ht : ¬ inT s := fun ht => by
    have hq : q = s / 86400 := by
     have := (mday_spec s (by unfold inT at ht; omega) (by unfold inT at ht; omega)).1
     rw [hD] at this
     exact (Prod.mk.inj (Option.some.inj this)).1
    exact h0 (hq ▸ inT_day ht)
   simp (disch := omega) only [ss, cond_true, cond_false, Option.bind_some, no _ _ _ _ _ 0 (fun q => ht q.2)]
 ·rw [e]
  simp only [Option.bind_some]
  rcases date_both q with ⟨y0, m0, d0, h0, e0⟩ | ⟨h0, e0⟩
  ·rw [e0]
   simp (disch := omega) only [ss, cond_true, cond_false, Option.bind_some, out _ _ _ _ _ h]
  ·rw [e0]
   simp (disch := omega) only [ss, cond_true, cond_false, Option.bind_some, out _ _ _ _ _ h]
end Go.GV.YtnjabmimijhjjaaGreatDoor
