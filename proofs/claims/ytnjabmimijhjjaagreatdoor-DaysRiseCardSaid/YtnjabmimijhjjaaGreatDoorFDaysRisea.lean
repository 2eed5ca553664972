/-
Part of the words that DaysRise is proved with: no statement of its own, no conditions.
-/
import Derived.Test.YtnjabmimijhjjaaGreatDoorZ10
set_option linter.unusedVariables false
set_option linter.unusedSimpArgs false
namespace Go.GV.YtnjabmimijhjjaaGreatDoor
open Go.Proofs
theorem DaysRise_pure (r : Rl) (s t more : Int) : voklaw6_DaysRise.f r s t more = some (true, ()) := by
 have l1t : voklaw6_DaysRise.l1 s t more true r = some (true, ()) := by rw [voklaw6_DaysRise.l1_eq, cond_true, first_true]; rfl
 have l2t : ∀ a (e : Bool) z b, (e = true ∨ a = 0) → voklaw6_DaysRise.l2 s t a e z b true r = some (true, ()) := fun a e z b h => by
  rw [voklaw6_DaysRise.l2_eq, cond_true, first_true]
  cases e with
  | true => rfl
  | false =>
   have ha : a = 0 := h.resolve_left (by simp)
   simp (disch := omega) only [ss, cond_true, cond_false, Option.bind_some]
 obtain ⟨b, hb, hsh⟩ := few_some r
 rw [voklaw6_DaysRise.f_eq, first_true, hb]
 simp only [Option.bind_some, Bool.not_true, cond_false]
 cases b with
 | false => rw [Bool.not_false, cond_true, l1t]
 | true =>
  rw [Bool.not_true, cond_false]
  by_cases c1 : more < 0
  ·rw [dp c1, cond_true, l1t]
  by_cases c2 : more > 5000000
  ·rw [dn c1, cond_false, dp c2, l1t]
  rw [dn c1, cond_false, dn c2, voklaw6_DaysRise.l1_eq, cond_false]
  have hr := hsh rfl
  obtain ⟨bm, hm⟩ := may_some r hr
  have hpp : bm = true → _ := fun q => may_p hr (by rw [hm, q])
  obtain ⟨f, iv, ct, un, wkst, en, mo, we, yd, md, dy, ho, mi, se, po, ⟨⟩⟩ := r
  dsimp only at hpp
  have hl : we.length ≤ 100000 := hr.2.1
  have hP : ∀ x : Int, ∃ a o, days_Period.f (f, iv, ct, un, wkst, en, mo, we, yd, md, dy, ho, mi, se, po, ()) s x = some (a, o, ()) ∧ (o = true ↔ ((bm = true ∧ inT s) ∧ inT x)) ∧ (o = false → a = 0) := fun x => by
   by_cases h : (bm = true ∧ inT s) ∧ inT x
   ·have h' := h
    obtain ⟨⟨hb1, hs⟩, ht⟩ := h
    have hp := hpp hb1
    have hm' := hm
    rw [hb1] at hm'
    have hf : 1 ≤ f ∧ f ≤ 7 := ⟨hp.1.1.1, hp.1.1.2.1⟩
    have hw : 0 ≤ wkst ∧ wkst ≤ 6 := ⟨hp.1.1.2.2.2.2.2.2.1, hp.1.1.2.2.2.2.2.2.2⟩
    obtain ⟨k, h1, _⟩ := num_both f iv ct un wkst en mo we yd md dy ho mi se po x ht hf hw hl
    obtain ⟨k0, g1, _⟩ := num_both f iv ct un wkst en mo we yd md dy ho mi se po s hs hf hw hl
    obtain ⟨p1, _, _⟩ := period_val f iv ct un wkst en mo we yd md dy ho mi se po s x hm' hs ht hf hw hl k k0 h1 g1
    exact ⟨_, true, p1, ⟨fun _ => h', fun _ => rfl⟩, fun q => by cases q⟩
   ·obtain ⟨p1, _⟩ := period_no f iv ct un wkst en mo we yd md dy ho mi se po s x bm hm h
    exact ⟨0, false, p1, ⟨(fun q => by cases q), fun q => absurd q h⟩, fun _ => rfl⟩
  obtain ⟨a, ea, p1, p1o, p1z⟩ := hP t
  obtain ⟨z, ez, p2, p2o, _⟩ := hP s
  obtain ⟨bb, eb, p3, p3o, _⟩ := hP (IntKind.i64.wrap (t + more))
  rw [p1, p2, p3]
  simp only [Option.bind_some]
  have hea : ea = true ∨ a = 0 := by
   cases ea with
   | true => exact .inl rfl
   | false => exact .inr (p1z rfl)
  have l2t' := l2t a ea z bb hea
  cases hea' : ea with
  | false =>
   rw [hea'] at l2t'
   rw [Bool.not_false, cond_true]
   exact l2t'
  | true =>
   rw [hea'] at l2t'
   have ht := p1o.1 hea'
   have hez : ez = true := p2o.2 ⟨ht.1, ht.1.2⟩
   rw [hez, Bool.not_true, cond_false, cond_false]
   by_cases c3 : t > 250000000000
   ·rw [dp c3, cond_true]
    exact l2t'
   ·rw [dn c3, cond_false]
    cases heb : eb with
    | false =>
     rw [Bool.not_false]
     exact l2t'
    | true =>
     rw [Bool.not_true]
     obtain ⟨⟨hb1, hs⟩, htt⟩ := ht
     have hp := hpp hb1
     have hm' := hm
     rw [hb1] at hm'
     have hf : 1 ≤ f ∧ f ≤ 7 := ⟨hp.1.1.1, hp.1.1.2.1⟩
     have hw : 0 ≤ wkst ∧ wkst ≤ 6 := ⟨hp.1.1.2.2.2.2.2.2.1, hp.1.1.2.2.2.2.2.2.2⟩
     have wmore : IntKind.i64.wrap (t + more) = t + more := by
      unfold inT at htt
      exact wr (by omega) (by omega)
     have htm := (p3o.1 heb).2
     rw [wmore] at htm p3
     obtain ⟨k, h1, hkb, _⟩ := num_both f iv ct un wkst en mo we yd md dy ho mi se po t htt hf hw hl
     obtain ⟨k0, g1, gkb, _⟩ := num_both f iv ct un wkst en mo we yd md dy ho mi se po s hs hf hw hl
     obtain ⟨k1, q1, _⟩ := num_both f iv ct un wkst en mo we yd md dy ho mi se po (t + more) htm hf hw hl
     have pv := fun x (hx : inT x) k' (hk' : isPer f wkst we x k') => (period_val f iv ct un wkst en mo we yd md dy ho mi se po s x hm' hs hx hf hw hl k' k0 hk' g1).1
     have ea1 : a = k - k0 := by
      have := pv t htt k h1
      rw [p1] at this
      exact (Prod.mk.inj (Option.some.inj this)).1
     have ez1 : z = 0 := by
      have := pv s hs k0 g1
      rw [p2] at this
      have := (Prod.mk.inj (Option.some.inj this)).1
      omega
     have eb1 : bb = k1 - k0 := by
      have := pv (t + more) htm k1 q1
      rw [p3] at this
      exact (Prod.mk.inj (Option.some.inj this)).1
     have hmono := per_mono h1 q1 (by omega)
     have hbd := inT_day htt
     obtain ⟨A, B, d1, d2, d3, _⟩ := days_both f iv ct un wkst en mo we yd md dy ho mi se po t hm' htt hf hw hl
     have hAB : A ≤ t / 86400 ∧ t / 86400 ≤ B := by
      by_cases c4 : f ≤ 4
      ·have := iv_bd (d1 c4) hbd
       omega
      ·have := d2 (by omega)
       omega
     have hD := (mday_spec t (by unfold inT at htt; omega) (by unfold inT at htt; omega)).1
     rw [voklaw6_DaysRise.l2_eq, cond_false, dp ez1, Bool.not_true, cond_false, dn (show ¬ bb < a by omega), voklaw6_DaysRise.l3_eq, cond_false, d3]
     simp only [Option.bind_some]
     rw [hD]
     simp only [Option.bind_some]
     rw [dn (show ¬ t / 86400 < A by omega), dn (show ¬ t / 86400 > B by omega), cond_false, voklaw6_DaysRise.l4_eq, cond_false]
     by_cases c4 : f > 4
     ·have e := d2 c4
      have hAB' : A = B := by omega
      rw [dp c4, cond_true, first_true]
      simp only [Option.bind_some, cond_true]
      rw [dp hAB']
     ·rw [dn c4, cond_false]
      have hI := d1 (by omega)
      have hb2 := iv_bd hI hbd
      have hN : isNum f wkst we (t / 86400) k := by
       rcases h1 with ⟨_, h1⟩ | ⟨q, _⟩ | ⟨q, _⟩ | ⟨q, _⟩
       ·exact h1
       ·omega
       ·omega
       ·omega
      have hf4 : 1 ≤ f ∧ f ≤ 4 := ⟨hf.1, by omega⟩
      have day : ∀ (x j kk : Int), -719162 ≤ x ∧ x ≤ 2932896 → 0 ≤ j ∧ j < 86400 → (∀ k', isNum f wkst we x k' → k' = kk) → days_Period.f (f, iv, ct, un, wkst, en, mo, we, yd, md, dy, ho, mi, se, po, ()) s (x * 86400 + j) = some (kk - k0, true, ()) := fun x j kk hx hj hu => by
       obtain ⟨k', n1, _, n3, _⟩ := num_day f iv ct un wkst en mo we yd md dy ho mi se po x hx hf4 hw hl j hj
       have e := hu k' n1
       subst e
       refine pv _ n3 k' (.inl ⟨hf4.2, ?_⟩)
       rw [show (x * 86400 + j) / 86400 = x by omega]
       exact n1
      have r1 := day A 0 k ⟨hb2.2.2.1, by omega⟩ (by omega) fun k' h' => (iv_num hI hN h' ⟨hb2.2.2.1, by omega⟩).1 ⟨by omega, by omega⟩
      have r2 := day B 86399 k ⟨by omega, hb2.2.2.2⟩ (by omega) fun k' h' => (iv_num hI hN h' ⟨by omega, hb2.2.2.2⟩).1 ⟨by omega, by omega⟩
      rw [Int.add_zero] at r1
      have r3 : ∃ p q, days_Period.f (f, iv, ct, un, wkst, en, mo, we, yd, md, dy, ho, mi, se, po, ()) s (A * 86400 - 1) = some (p, q, ()) ∧ (q = true → p = a - 1) := by
       by_cases c5 : -719162 ≤ A - 1
       ·have := day (A - 1) 86399 (k - 1) ⟨c5, by omega⟩ (by omega) fun k' h' => (iv_num hI hN h' ⟨c5, by omega⟩).2.1 rfl
        rw [show (A - 1) * 86400 + 86399 = A * 86400 - 1 by omega] at this
        exact ⟨_, _, this, fun _ => by omega⟩
       ·have h := period_no f iv ct un wkst en mo we yd md dy ho mi se po s (A * 86400 - 1) true hm' (fun q => by have := q.2; unfold inT at this; omega)
        exact ⟨_, _, h.1, fun q => by cases q⟩
      have r4 : ∃ p q, days_Period.f (f, iv, ct, un, wkst, en, mo, we, yd, md, dy, ho, mi, se, po, ()) s (B * 86400 + 86400) = some (p, q, ()) ∧ (q = true → p = a + 1) := by
       by_cases c5 : B + 1 ≤ 2932896
       ·have := day (B + 1) 0 (k + 1) ⟨by omega, c5⟩ (by omega) fun k' h' => (iv_num hI hN h' ⟨by omega, c5⟩).2.2 rfl
        rw [show (B + 1) * 86400 + 0 = B * 86400 + 86400 by omega] at this
        exact ⟨_, _, this, fun _ => by omega⟩
       ·have h := period_no f iv ct un wkst en mo we yd md dy ho mi se po s (B * 86400 + 86400) true hm' (fun q => by have := q.2; unfold inT at this; omega)
        exact ⟨_, _, h.1, fun q => by cases q⟩
      obtain ⟨x3, y3, r3, z3⟩ := r3
      obtain ⟨x4, y4, r4, z4⟩ := r4
      rw [← ea1] at r1 r2
      simp (disch := omega) only [ss, cond_true, cond_false, Option.bind_some, r1, r2, r3, r4, first_true]
      cases y3 with
      | false =>
       cases y4 with
       | false => rfl
       | true =>
        have := z4 rfl
        simp (disch := omega) only [ss, cond_true, cond_false, Option.bind_some]
      | true =>
       have := z3 rfl
       cases y4 with
       | false => simp (disch := omega) only [ss, cond_true, cond_false, Option.bind_some]
       | true =>
        have := z4 rfl
        simp (disch := omega) only [ss, cond_true, cond_false, Option.bind_some]
end Go.GV.YtnjabmimijhjjaaGreatDoor
