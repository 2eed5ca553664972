/-
Part of the words that MemberLess is proved with: no statement of its own, no conditions.
-/
import Derived.Test.YtaeejbmbkejjiaaGreatDoorZ11
set_option linter.unusedVariables false
set_option linter.unusedSimpArgs false
namespace Go.GV.YtaeejbmbkejjiaaGreatDoor
open Go.Proofs
theorem MemberLess_pure (r : Rl) (s t k : Int) : voklaw7_MemberLess.f r s t k = some (true, ()) := by
 obtain ⟨b, hb, hsh⟩ := light_some r s
 rw [voklaw7_MemberLess.f_eq, first_true, hb]
 simp only [Option.bind_some, Bool.not_true, cond_false]
 cases b with
 | false => rfl
 | true =>
  rw [Bool.not_true, cond_false]
  have hr := hsh rfl
  obtain ⟨bm, hm⟩ := may_some r hr
  have hcp := copy_rule r hr
  obtain ⟨f, iv, ct, un, wkst, en, mo, we, yd, md, dy, ho, mi, se, po, ⟨⟩⟩ := r
  obtain ⟨bq, hq⟩ : ∃ bq, rule_May.f (f, iv, k, un, wkst, en, mo, we, yd, md, dy, ho, mi, se, po, ()) = some (bq, ()) := may_some _ hr
  have hl3 : ∀ x : Bool, (bm = true → bq = true → member_Has.f (f, iv, k, un, wkst, en, mo, we, yd, md, dy, ho, mi, se, po, ()) s t = some (x, ())) → voklaw7_MemberLess.l3 s t k x (f, iv, ct, un, wkst, en, mo, we, yd, md, dy, ho, mi, se, po, ()) = some (true, ()) := fun x hx => by
   rw [voklaw7_MemberLess.l3_eq, hcp, first_true]
   simp only [Option.bind_some, cond_true]
   rw [hm, hq]
   simp only [Option.bind_some]
   cases bm with
   | false => rfl
   | true =>
    rw [Bool.not_true, cond_false]
    cases bq with
    | false => rfl
    | true =>
     rw [Bool.not_true, cond_false, hx rfl rfl, Option.bind_some, beq_self_eq_true]
  by_cases hh : bm = true ∧ inT s
  ·obtain ⟨hb1, hs⟩ := hh
   subst hb1
   obtain ⟨P, hMk, hP⟩ := plan_ok f iv ct un wkst en mo we yd md dy ho mi se po s hr hm hs
   have h1 := qHas hP hMk t
   have h2 := qRaw hP hMk t
   have h3 := hl3 (ind (belP iv un en po s (fitsB f wkst mo we yd md dy s) (per f wkst we) (hoursL f ho s) (minsL f mi s) (secsL f se s) t)) fun _ e => by
    obtain ⟨P', hMk', hP'⟩ := plan_ok f iv k un wkst en mo we yd md dy ho mi se po s hr (by rw [hq, e]) hs
    exact qHas hP' hMk' t
   have hbel : belP iv un en po s (fitsB f wkst mo we yd md dy s) (per f wkst we) (hoursL f ho s) (minsL f mi s) (secsL f se s) t → rawP iv s (fitsB f wkst mo we yd md dy s) (per f wkst we) (hoursL f ho s) (minsL f mi s) (secsL f se s) t ∧ s ≤ t ∧ (en = true → t ≤ un) := fun q => ⟨q.1, q.2.1, q.2.2.1⟩
   have hbel' : po = [] → rawP iv s (fitsB f wkst mo we yd md dy s) (per f wkst we) (hoursL f ho s) (minsL f mi s) (secsL f se s) t ∧ s ≤ t ∧ (en = true → t ≤ un) → belP iv un en po s (fitsB f wkst mo we yd md dy s) (per f wkst we) (hoursL f ho s) (minsL f mi s) (secsL f se s) t := fun e q => ⟨q.1, q.2.1, q.2.2, .inl e⟩
   rw [h1, h2]
   simp only [Option.bind_some]
   revert hbel hbel' h3
   generalize belP iv un en po s (fitsB f wkst mo we yd md dy s) (per f wkst we) (hoursL f ho s) (minsL f mi s) (secsL f se s) t = bel
   generalize rawP iv s (fitsB f wkst mo we yd md dy s) (per f wkst we) (hoursL f ho s) (minsL f mi s) (secsL f se s) t = raw
   intro h3 hbel hbel'
   have hl1 : ∀ B : Bool, (B = true ↔ raw ∧ s ≤ t ∧ (en = true → t ≤ un)) → voklaw7_MemberLess.l1 s t k (ind bel) B (f, iv, ct, un, wkst, en, mo, we, yd, md, dy, ho, mi, se, po, ()) = some (true, ()) := fun B hB => by
    have hl2 : voklaw7_MemberLess.l2 s t k (ind bel) false (f, iv, ct, un, wkst, en, mo, we, yd, md, dy, ho, mi, se, po, ()) = some (true, ()) := by rw [voklaw7_MemberLess.l2_eq, cond_false, h3]
    rw [voklaw7_MemberLess.l1_eq]
    by_cases c1 : bel
    ·rw [ind_t c1] at hl2 ⊢
     have e : B = true := hB.2 (hbel c1)
     subst e
     by_cases c2 : (po.length : Int) = 0
     ·rw [cond_true, Bool.not_true, cond_false, dp c2, cond_true]
      exact hl2
     ·rw [cond_true, Bool.not_true, cond_false, dn c2, cond_false]
      exact hl2
    ·rw [ind_f c1] at hl2 ⊢
     by_cases c2 : (po.length : Int) = 0
     ·have e : B = false := by
       cases B with
       | false => rfl
       | true => exact absurd (hbel' (List.length_eq_zero_iff.1 (by omega)) (hB.1 rfl)) c1
      subst e
      rw [cond_false, dp c2, cond_true]
      exact hl2
     ·rw [cond_false, dn c2, cond_false]
      exact hl2
   by_cases c1 : raw
   ·rw [ind_t c1, cond_true]
    by_cases c2 : t ≥ s
    ·rw [dp c2, cond_true]
     cases en with
     | false => exact hl1 true ⟨fun _ => ⟨c1, c2, fun q => by cases q⟩, fun _ => rfl⟩
     | true => exact hl1 _ ⟨fun q => ⟨c1, c2, fun _ => of_decide_eq_true q⟩, fun q => dp (q.2.2 rfl)⟩
    ·rw [dn c2, cond_false]
     exact hl1 false ⟨(fun q => by cases q), fun q => absurd q.2.1 c2⟩
   ·rw [ind_f c1, cond_false]
    exact hl1 false ⟨(fun q => by cases q), fun q => absurd q.1 c1⟩
  ·obtain ⟨P, hMk⟩ := plan_no _ s bm hm hh
   rw [noHas hMk, noRaw hMk]
   simp only [Option.bind_some, cond_false]
   have h3 := hl3 false fun e1 e2 => by
    obtain ⟨P', hMk'⟩ := plan_no _ s bq hq (fun q => hh ⟨e1, q.2⟩)
    exact noHas hMk' t
   have hl2 : voklaw7_MemberLess.l2 s t k false false (f, iv, ct, un, wkst, en, mo, we, yd, md, dy, ho, mi, se, po, ()) = some (true, ()) := by rw [voklaw7_MemberLess.l2_eq, cond_false, h3]
   rw [voklaw7_MemberLess.l1_eq, cond_false]
   by_cases c2 : (po.length : Int) = 0
   ·rw [dp c2, cond_true]
    exact hl2
   ·rw [dn c2, cond_false]
    exact hl2
end Go.GV.YtaeejbmbkejjiaaGreatDoor
