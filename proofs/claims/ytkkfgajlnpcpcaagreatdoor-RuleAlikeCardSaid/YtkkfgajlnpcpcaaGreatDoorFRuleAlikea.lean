/-
Part of the words that RuleAlike is proved with: no statement of its own, no conditions.
-/
import Derived.Test.YtkkfgajlnpcpcaaGreatDoorZ13
set_option linter.unusedVariables false
set_option linter.unusedSimpArgs false
namespace Go.GV.YtkkfgajlnpcpcaaGreatDoor
open Go.Proofs
theorem text_inj {r q : Rl} (hr : shortR r) (hq : shortR q) (h1 : rule_May.f r = some (true, ())) (h2 : rule_May.f q = some (true, ())) (h : jn 59 (pts r) = jn 59 (pts q)) : r = q := by
 have e1 := parse_back r hr h1
 have e2 := parse_back q hq h2
 rw [h, e2] at e1
 exact ((Prod.mk.inj (Option.some.inj e1)).1).symm
theorem RuleAlike_pure (r q : Rl) : voklaw5_RuleAlike.f r q = some (true, ()) := by
 have l1t : voklaw5_RuleAlike.l1 true r.1 r.2.1 r.2.2.1 r.2.2.2.1 r.2.2.2.2.1 r.2.2.2.2.2.1 r.2.2.2.2.2.2.1 r.2.2.2.2.2.2.2.1 r.2.2.2.2.2.2.2.2.1 r.2.2.2.2.2.2.2.2.2.1 r.2.2.2.2.2.2.2.2.2.2.1 r.2.2.2.2.2.2.2.2.2.2.2.1 r.2.2.2.2.2.2.2.2.2.2.2.2.1 r.2.2.2.2.2.2.2.2.2.2.2.2.2.1 r.2.2.2.2.2.2.2.2.2.2.2.2.2.2.1 q.1 q.2.1 q.2.2.1 q.2.2.2.1 q.2.2.2.2.1 q.2.2.2.2.2.1 q.2.2.2.2.2.2.1 q.2.2.2.2.2.2.2.1 q.2.2.2.2.2.2.2.2.1 q.2.2.2.2.2.2.2.2.2.1 q.2.2.2.2.2.2.2.2.2.2.1 q.2.2.2.2.2.2.2.2.2.2.2.1 q.2.2.2.2.2.2.2.2.2.2.2.2.1 q.2.2.2.2.2.2.2.2.2.2.2.2.2.1 q.2.2.2.2.2.2.2.2.2.2.2.2.2.2.1 = some (true, ()) := by rw [voklaw5_RuleAlike.l1_eq, cond_true, first_true]; rfl
 obtain ⟨b, hb, hsh⟩ := few_some r
 obtain ⟨d, hd, hsq⟩ := few_some q
 have hF : vokref_FewRule.f (r.1, r.2.1, r.2.2.1, r.2.2.2.1, r.2.2.2.2.1, r.2.2.2.2.2.1, r.2.2.2.2.2.2.1, r.2.2.2.2.2.2.2.1, r.2.2.2.2.2.2.2.2.1, r.2.2.2.2.2.2.2.2.2.1, r.2.2.2.2.2.2.2.2.2.2.1, r.2.2.2.2.2.2.2.2.2.2.2.1, r.2.2.2.2.2.2.2.2.2.2.2.2.1, r.2.2.2.2.2.2.2.2.2.2.2.2.2.1, r.2.2.2.2.2.2.2.2.2.2.2.2.2.2.1, ()) = some (b, ()) := hb
 have hG : vokref_FewRule.f (q.1, q.2.1, q.2.2.1, q.2.2.2.1, q.2.2.2.2.1, q.2.2.2.2.2.1, q.2.2.2.2.2.2.1, q.2.2.2.2.2.2.2.1, q.2.2.2.2.2.2.2.2.1, q.2.2.2.2.2.2.2.2.2.1, q.2.2.2.2.2.2.2.2.2.2.1, q.2.2.2.2.2.2.2.2.2.2.2.1, q.2.2.2.2.2.2.2.2.2.2.2.2.1, q.2.2.2.2.2.2.2.2.2.2.2.2.2.1, q.2.2.2.2.2.2.2.2.2.2.2.2.2.2.1, ()) = some (d, ()) := hd
 rw [voklaw5_RuleAlike.f_eq, first_true, hF]
 simp only [Option.bind_some, Bool.not_true, cond_false]
 cases b with
 | false => rw [Bool.not_false, cond_true, l1t]
 | true =>
  rw [Bool.not_true, cond_false, hG]
  simp only [Option.bind_some]
  cases d with
  | false => rw [Bool.not_false, l1t]
  | true =>
   have hr := hsh rfl
   have hq := hsq rfl
   obtain ⟨u, hu, eu⟩ := same_tells r q hr
   obtain ⟨v, hv, ev⟩ := same_tells q r hq
   have hSu : rule_Same.f (r.1, r.2.1, r.2.2.1, r.2.2.2.1, r.2.2.2.2.1, r.2.2.2.2.2.1, r.2.2.2.2.2.2.1, r.2.2.2.2.2.2.2.1, r.2.2.2.2.2.2.2.2.1, r.2.2.2.2.2.2.2.2.2.1, r.2.2.2.2.2.2.2.2.2.2.1, r.2.2.2.2.2.2.2.2.2.2.2.1, r.2.2.2.2.2.2.2.2.2.2.2.2.1, r.2.2.2.2.2.2.2.2.2.2.2.2.2.1, r.2.2.2.2.2.2.2.2.2.2.2.2.2.2.1, ()) (q.1, q.2.1, q.2.2.1, q.2.2.2.1, q.2.2.2.2.1, q.2.2.2.2.2.1, q.2.2.2.2.2.2.1, q.2.2.2.2.2.2.2.1, q.2.2.2.2.2.2.2.2.1, q.2.2.2.2.2.2.2.2.2.1, q.2.2.2.2.2.2.2.2.2.2.1, q.2.2.2.2.2.2.2.2.2.2.2.1, q.2.2.2.2.2.2.2.2.2.2.2.2.1, q.2.2.2.2.2.2.2.2.2.2.2.2.2.1, q.2.2.2.2.2.2.2.2.2.2.2.2.2.2.1, ()) = some (u, ()) := hu
   have hSv : rule_Same.f (q.1, q.2.1, q.2.2.1, q.2.2.2.1, q.2.2.2.2.1, q.2.2.2.2.2.1, q.2.2.2.2.2.2.1, q.2.2.2.2.2.2.2.1, q.2.2.2.2.2.2.2.2.1, q.2.2.2.2.2.2.2.2.2.1, q.2.2.2.2.2.2.2.2.2.2.1, q.2.2.2.2.2.2.2.2.2.2.2.1, q.2.2.2.2.2.2.2.2.2.2.2.2.1, q.2.2.2.2.2.2.2.2.2.2.2.2.2.1, q.2.2.2.2.2.2.2.2.2.2.2.2.2.2.1, ()) (r.1, r.2.1, r.2.2.1, r.2.2.2.1, r.2.2.2.2.1, r.2.2.2.2.2.1, r.2.2.2.2.2.2.1, r.2.2.2.2.2.2.2.1, r.2.2.2.2.2.2.2.2.1, r.2.2.2.2.2.2.2.2.2.1, r.2.2.2.2.2.2.2.2.2.2.1, r.2.2.2.2.2.2.2.2.2.2.2.1, r.2.2.2.2.2.2.2.2.2.2.2.2.1, r.2.2.2.2.2.2.2.2.2.2.2.2.2.1, r.2.2.2.2.2.2.2.2.2.2.2.2.2.2.1, ()) = some (v, ()) := hv
   have huv : u = v := by
    have : u = true ↔ v = true := ⟨fun h => ev.2 (eu.1 h).symm, fun h => eu.2 (ev.1 h).symm⟩
    cases u <;> cases v <;> first | rfl | exact absurd (this.1 rfl) (by simp) | exact absurd (this.2 rfl) (by simp)
   subst huv
   obtain ⟨m, hm⟩ := may_some r hr
   obtain ⟨k, hk⟩ := may_some q hq
   have l2t : ∀ x y : ByteArray, voklaw5_RuleAlike.l2 x y true r.1 r.2.1 r.2.2.1 r.2.2.2.1 r.2.2.2.2.1 r.2.2.2.2.2.1 r.2.2.2.2.2.2.1 r.2.2.2.2.2.2.2.1 r.2.2.2.2.2.2.2.2.1 r.2.2.2.2.2.2.2.2.2.1 r.2.2.2.2.2.2.2.2.2.2.1 r.2.2.2.2.2.2.2.2.2.2.2.1 r.2.2.2.2.2.2.2.2.2.2.2.2.1 r.2.2.2.2.2.2.2.2.2.2.2.2.2.1 r.2.2.2.2.2.2.2.2.2.2.2.2.2.2.1 q.1 q.2.1 q.2.2.1 q.2.2.2.1 q.2.2.2.2.1 q.2.2.2.2.2.1 q.2.2.2.2.2.2.1 q.2.2.2.2.2.2.2.1 q.2.2.2.2.2.2.2.2.1 q.2.2.2.2.2.2.2.2.2.1 q.2.2.2.2.2.2.2.2.2.2.1 q.2.2.2.2.2.2.2.2.2.2.2.1 q.2.2.2.2.2.2.2.2.2.2.2.2.1 q.2.2.2.2.2.2.2.2.2.2.2.2.2.1 q.2.2.2.2.2.2.2.2.2.2.2.2.2.2.1 = some (true, ()) := fun x y => by
    rw [voklaw5_RuleAlike.l2_eq, cond_true, first_true]
    simp (disch := omega) only [ss, cond_true, cond_false, Option.bind_some, hSu, hSv, beq_self_eq_true]
   rw [Bool.not_true, voklaw5_RuleAlike.l1_eq, cond_false]
   have tot : ∀ (x : Rl) (c : Bool), shortR x → rule_May.f x = some (c, ()) → ∃ t : List UInt8, ∃ e : Int, rule_Print.f x = some (mkS t, e, ()) ∧ (e = 0 ↔ c = true) ∧ (c = true → t = jn 59 (pts x)) := fun x c hx hc => by
    cases c with
    | false => exact ⟨[], 1, print_no x hc, by simp, fun q => by cases q⟩
    | true => exact ⟨_, 0, (print_ok x hx hc).1, by simp, fun _ => rfl⟩
   obtain ⟨t1, e1, a1, a2, a3⟩ := tot r m hr hm
   obtain ⟨t2, e2, b1, b2, b3⟩ := tot q k hq hk
   have hP : rule_Print.f (r.1, r.2.1, r.2.2.1, r.2.2.2.1, r.2.2.2.2.1, r.2.2.2.2.2.1, r.2.2.2.2.2.2.1, r.2.2.2.2.2.2.2.1, r.2.2.2.2.2.2.2.2.1, r.2.2.2.2.2.2.2.2.2.1, r.2.2.2.2.2.2.2.2.2.2.1, r.2.2.2.2.2.2.2.2.2.2.2.1, r.2.2.2.2.2.2.2.2.2.2.2.2.1, r.2.2.2.2.2.2.2.2.2.2.2.2.2.1, r.2.2.2.2.2.2.2.2.2.2.2.2.2.2.1, ()) = some (mkS t1, e1, ()) := a1
   have hQ : rule_Print.f (q.1, q.2.1, q.2.2.1, q.2.2.2.1, q.2.2.2.2.1, q.2.2.2.2.2.1, q.2.2.2.2.2.2.1, q.2.2.2.2.2.2.2.1, q.2.2.2.2.2.2.2.2.1, q.2.2.2.2.2.2.2.2.2.1, q.2.2.2.2.2.2.2.2.2.2.1, q.2.2.2.2.2.2.2.2.2.2.2.1, q.2.2.2.2.2.2.2.2.2.2.2.2.1, q.2.2.2.2.2.2.2.2.2.2.2.2.2.1, q.2.2.2.2.2.2.2.2.2.2.2.2.2.2.1, ()) = some (mkS t2, e2, ()) := b1
   rw [hP, hQ]
   simp only [Option.bind_some]
   by_cases c1 : e1 = 0
   ·by_cases c2 : e2 = 0
    ·rw [dp c1, dp c2]
     simp only [Bool.not_true, cond_false]
     have m1 := a2.1 c1
     have k1 := b2.1 c2
     subst m1 k1
     rw [a3 rfl, b3 rfl]
     have hiff : u = decide (mkS (jn 59 (pts r)) = mkS (jn 59 (pts q))) := by
      by_cases c : r = q
      ·rw [eu.2 c, dp (by rw [c])]
      ·have : u = false := by
        cases hu2 : u with
        | false => rfl
        | true => exact absurd (eu.1 hu2) c
       rw [this, dn fun h => c (text_inj hr hq hm hk (mkS_inj h))]
     rw [voklaw5_RuleAlike.l2_eq, cond_false, first_true, beq_S, ← hiff]
     simp (disch := omega) only [ss, cond_true, cond_false, Option.bind_some, hSu, hSv, beq_self_eq_true]
    ·rw [dp c1, dn c2]
     simp only [Bool.not_true, Bool.not_false, cond_false]
     exact l2t _ _
   ·rw [dn c1]
    simp only [Bool.not_false, cond_true]
    exact l2t _ _
end Go.GV.YtkkfgajlnpcpcaaGreatDoor
