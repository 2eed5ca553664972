/-
Part of the words that MemberEnds is proved with: no statement of its own, no conditions.
-/
import Derived.Test.YtaeejbmbkejjiaaGreatDoorZ11
set_option linter.unusedVariables false
set_option linter.unusedSimpArgs false
namespace Go.GV.YtaeejbmbkejjiaaGreatDoor
open Go.Proofs
section
variable (f iv ct un wkst : Int) (en : Bool) (mo we yd md : List Int) (dy : List Dy) (ho mi se po : List Int)
theorem ends_may (hs : short mo we yd md dy ho mi se po) (hM : rule_May.f (f, iv, 0, un, wkst, true, mo, we, yd, md, dy, ho, mi, se, po, ()) = some (true, ())) :
  rule_May.f (f, iv, 0, 0, wkst, false, mo, we, yd, md, dy, ho, mi, se, po, ()) = some (true, ()) := by
 have hp := may_p (r := (f, iv, 0, un, wkst, true, mo, we, yd, md, dy, ho, mi, se, po, ())) hs hM
 dsimp only at hp
 have g1 := (may_gate f iv 0 un wkst true mo we yd md dy ho mi se po hs).1 hp
 have g2 := (may_gate f iv 0 0 wkst false mo we yd md dy ho mi se po hs).1 ⟨⟨hp.1.1, (fun q => by cases q), fun _ => rfl⟩, hp.2⟩
 rw [g2]
 rw [hM] at g1
 rw [g1]
 simp only [rule_May.l5_eq, rule_May.l6_eq, rule_May.l7_eq]
end
theorem MemberEnds_pure (r : Rl) (s t u : Int) : voklaw7_MemberEnds.f r s t u = some (true, ()) := by
 obtain ⟨b, hb, hsh⟩ := light_some r s
 rw [voklaw7_MemberEnds.f_eq, first_true, hb]
 simp only [Option.bind_some, Bool.not_true, cond_false]
 cases b with
 | false => rfl
 | true =>
  rw [Bool.not_true, cond_false]
  have hr := hsh rfl
  have hcp := copy_rule r hr
  obtain ⟨f, iv, ct, un, wkst, en, mo, we, yd, md, dy, ho, mi, se, po, ⟨⟩⟩ := r
  have hcp2 : vokref_CopyRule.f (f, iv, 0, 0, wkst, false, mo, we, yd, md, dy, ho, mi, se, po, ()) = some ((f, iv, 0, 0, wkst, false, mo, we, yd, md, dy, ho, mi, se, po, ()), ()) := copy_rule _ hr
  obtain ⟨bq, hq⟩ : ∃ bq, rule_May.f (f, iv, 0, u, wkst, true, mo, we, yd, md, dy, ho, mi, se, po, ()) = some (bq, ()) := may_some _ hr
  rw [hcp]
  simp only [Option.bind_some]
  rw [hcp2]
  simp only [Option.bind_some]
  rw [hq, Option.bind_some]
  cases bq with
  | false => rfl
  | true =>
   have hq2 := ends_may f iv u wkst mo we yd md dy ho mi se po hr hq
   rw [Bool.not_true, cond_false, cond_true]
   by_cases hs : inT s
   ·obtain ⟨P, hMk, hP⟩ := plan_ok f iv 0 u wkst true mo we yd md dy ho mi se po s hr hq hs
    obtain ⟨P', hMk', hP'⟩ := plan_ok f iv 0 0 wkst false mo we yd md dy ho mi se po s hr hq2 hs
    have h1 := qHas hP hMk t
    have h2 := qHas hP' hMk' t
    rw [h1, h2]
    simp only [Option.bind_some]
    by_cases c1 : belP iv 0 false po s (fitsB f wkst mo we yd md dy s) (per f wkst we) (hoursL f ho s) (minsL f mi s) (secsL f se s) t
    ·rw [ind_t c1, cond_true]
     by_cases c2 : t ≤ u
     ·rw [dp c2, ind_t]
      ·rfl
      ·exact ⟨c1.1, c1.2.1, fun _ => c2, c1.2.2.2⟩
     ·rw [dn c2, ind_f]
      ·rfl
      ·exact fun q => c2 (q.2.2.1 rfl)
    ·rw [ind_f c1, cond_false, ind_f]
     ·rfl
     ·exact fun q => c1 ⟨q.1, q.2.1, (fun z => by cases z), q.2.2.2⟩
   ·obtain ⟨P, hMk⟩ := plan_no _ s true hq (fun q => hs q.2)
    obtain ⟨P', hMk'⟩ := plan_no _ s true hq2 (fun q => hs q.2)
    rw [noHas hMk t, noHas hMk' t]
    rfl
end Go.GV.YtaeejbmbkejjiaaGreatDoor
