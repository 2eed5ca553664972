/-
Part of the words that DaysParts is proved with: no statement of its own, no conditions.
-/
import Derived.Test.YtnjabmimijhjjaaGreatDoorZ10
set_option linter.unusedVariables false
set_option linter.unusedSimpArgs false
namespace Go.GV.YtnjabmimijhjjaaGreatDoor
open Go.Proofs
theorem copy_ints (l : List Int) (h : l.length ≤ 1000000) : vokref_CopyInts.f l = some (l, ()) := by
 have hlim : limit = 17179869184 := rfl
 rw [vokref_CopyInts.f_eq]
 simp (disch := omega) only [ss, cond_true, cond_false, Option.bind_some, List.length_nil, hlim, List.nil_append]
theorem copy_rule (r : Rl) (h : shortR r) : vokref_CopyRule.f r = some (r, ()) := by
 have hlim : limit = 17179869184 := rfl
 unfold shortR short at h
 obtain ⟨h1, h2, h3, h4, h5, h6, h7, h8, h9⟩ := h
 rw [vokref_CopyRule.f_eq, copy_ints _ (by omega), copy_ints _ (by omega), copy_ints _ (by omega), copy_ints _ (by omega), copy_ints _ (by omega), copy_ints _ (by omega), copy_ints _ (by omega), copy_ints _ (by omega)]
 simp (disch := omega) only [ss, cond_true, cond_false, Option.bind_some, List.length_nil, hlim, List.nil_append]
section
variable (f iv ct un wkst : Int) (en : Bool) (mo we yd md : List Int) (dy : List Dy) (ho mi se po : List Int)
theorem fits_true (s n : Int) (hs : short mo we yd md dy ho mi se po) (hM : rule_May.f (f, iv, ct, un, wkst, en, mo, we, yd, md, dy, ho, mi, se, po, ()) = some (true, ())) (hF : days_Fits.f (f, iv, ct, un, wkst, en, mo, we, yd, md, dy, ho, mi, se, po, ()) s n = some (true, ())) :
  inT s ∧ ∃ y0 m0 d0 y m d, civil_Date.f (s / 86400) = some (y0, m0, d0, 0, ()) ∧ isDate n y m d ∧ civil_Date.f n = some (y, m, d, 0, ()) ∧ fitP f wkst mo we yd md dy m0 d0 (wk (s / 86400)) n y m d := by
 by_cases ht : inT s
 ·refine ⟨ht, ?_⟩
  obtain ⟨y0, m0, d0, _, e0, _⟩ := date_spec (s / 86400) (inT_day ht).1 (inT_day ht).2
  rcases date_both n with ⟨y, m, d, h, e⟩ | ⟨h, e⟩
  ·obtain ⟨b, h1, h2⟩ := fits_tells f iv ct un wkst en mo we yd md dy ho mi se po s n hs hM ht y0 m0 d0 e0 y m d h e
   rw [hF] at h1
   have hb : true = b := (Prod.mk.inj (Option.some.inj h1)).1
   exact ⟨y0, m0, d0, y, m, d, e0, h, e, h2.1 hb.symm⟩
  ·rw [fits_out f iv ct un wkst en mo we yd md dy ho mi se po s n hM ht h] at hF
   cases hF
 ·rw [fits_no _ s n true hM fun q => ht q.2] at hF
  cases hF
theorem fits_of (s n : Int) (hs : short mo we yd md dy ho mi se po) (hM : rule_May.f (f, iv, ct, un, wkst, en, mo, we, yd, md, dy, ho, mi, se, po, ()) = some (true, ())) (ht : inT s) (y0 m0 d0 y m d : Int)
  (e0 : civil_Date.f (s / 86400) = some (y0, m0, d0, 0, ())) (h : isDate n y m d) (e : civil_Date.f n = some (y, m, d, 0, ())) (hp : fitP f wkst mo we yd md dy m0 d0 (wk (s / 86400)) n y m d) :
  days_Fits.f (f, iv, ct, un, wkst, en, mo, we, yd, md, dy, ho, mi, se, po, ()) s n = some (true, ()) := by
 obtain ⟨b, h1, h2⟩ := fits_tells f iv ct un wkst en mo we yd md dy ho mi se po s n hs hM ht y0 m0 d0 e0 y m d h e
 rw [h1, h2.2 hp]
end
theorem fits_some (r : Rl) (s n : Int) (hs : shortR r) : ∃ b, days_Fits.f r s n = some (b, ()) := by
 obtain ⟨b, hb⟩ := may_some r hs
 by_cases h : b = true ∧ inT s
 ·obtain ⟨y0, m0, d0, _, e0, _⟩ := date_spec (s / 86400) (inT_day h.2).1 (inT_day h.2).2
  have hM := hb
  rw [h.1] at hM
  rcases date_both n with ⟨y, m, d, hd, e⟩ | ⟨hn, e⟩
  ·obtain ⟨c, h1, _⟩ := fits_tells r.1 r.2.1 r.2.2.1 r.2.2.2.1 r.2.2.2.2.1 r.2.2.2.2.2.1 r.2.2.2.2.2.2.1 r.2.2.2.2.2.2.2.1 r.2.2.2.2.2.2.2.2.1 r.2.2.2.2.2.2.2.2.2.1 r.2.2.2.2.2.2.2.2.2.2.1 r.2.2.2.2.2.2.2.2.2.2.2.1 r.2.2.2.2.2.2.2.2.2.2.2.2.1 r.2.2.2.2.2.2.2.2.2.2.2.2.2.1 r.2.2.2.2.2.2.2.2.2.2.2.2.2.2.1 s n hs hM h.2 y0 m0 d0 e0 y m d hd e
   exact ⟨c, h1⟩
  ·exact ⟨false, fits_out r.1 r.2.1 r.2.2.1 r.2.2.2.1 r.2.2.2.2.1 r.2.2.2.2.2.1 r.2.2.2.2.2.2.1 r.2.2.2.2.2.2.2.1 r.2.2.2.2.2.2.2.2.1 r.2.2.2.2.2.2.2.2.2.1 r.2.2.2.2.2.2.2.2.2.2.1 r.2.2.2.2.2.2.2.2.2.2.2.1 r.2.2.2.2.2.2.2.2.2.2.2.2.1 r.2.2.2.2.2.2.2.2.2.2.2.2.2.1 r.2.2.2.2.2.2.2.2.2.2.2.2.2.2.1 s n hM h.2 hn⟩
 ·exact ⟨false, fits_no r s n b hb h⟩
theorem DaysParts_pure (r : Rl) (s n : Int) : voklaw6_DaysParts.f r s n = some (true, ()) := by
 have l1t : voklaw6_DaysParts.l1 s n true r = some (true, ()) := by rw [voklaw6_DaysParts.l1_eq, cond_true, first_true]; rfl
 obtain ⟨b, hb, hsh⟩ := few_some r
 rw [voklaw6_DaysParts.f_eq, first_true, hb]
 simp only [Option.bind_some, Bool.not_true, cond_false]
 cases b with
 | false => rw [Bool.not_false, cond_true, l1t]
 | true =>
  rw [Bool.not_true, cond_false]
  have hr := hsh rfl
  obtain ⟨bm, hm⟩ := may_some r hr
  rw [hm]
  simp only [Option.bind_some]
  cases bm with
  | false => rw [Bool.not_false, l1t]
  | true =>
   rw [Bool.not_true]
   have hC := copy_rule r hr
   obtain ⟨w, hw⟩ := fits_some r s n hr
   have hp := may_p hr hm
   obtain ⟨f, iv, ct, un, wkst, en, mo, we, yd, md, dy, ho, mi, se, po, ⟨⟩⟩ := r
   dsimp only at hp
   have hs : short mo we yd md dy ho mi se po := hr
   have hsq : short [] we yd md dy ho mi se po := ⟨Nat.zero_le _, hs.2⟩
   have hsp : short mo we [] [] dy ho mi se po := ⟨hs.1, hs.2.1, Nat.zero_le _, Nat.zero_le _, hs.2.2.2.2⟩
   obtain ⟨bq, hq⟩ := may_some (f, iv, ct, un, wkst, en, [], we, yd, md, dy, ho, mi, se, po, ()) hsq
   obtain ⟨bp, hpm⟩ := may_some (f, iv, ct, un, wkst, en, mo, we, [], [], dy, ho, mi, se, po, ()) hsp
   obtain ⟨wq, hwq⟩ := fits_some (f, iv, ct, un, wkst, en, [], we, yd, md, dy, ho, mi, se, po, ()) s n hsq
   obtain ⟨wp, hwp⟩ := fits_some (f, iv, ct, un, wkst, en, mo, we, [], [], dy, ho, mi, se, po, ()) s n hsp
   obtain ⟨k1, k2, k3, k4, k5, _⟩ := hs
   have l5 : voklaw6_DaysParts.l5 n w (f, iv, ct, un, wkst, en, mo, we, yd, md, dy, ho, mi, se, po, ()) = some (true, ()) := by
    rw [voklaw6_DaysParts.l5_eq]
    cases w with
    | false =>
     rcases date_both n with ⟨y, m, d, h, e⟩ | ⟨h, e⟩
     ·simp (disch := omega) only [ss, cond_true, cond_false, Option.bind_some, e, first_true]
     ·simp (disch := omega) only [ss, cond_true, cond_false, Option.bind_some, e, first_true]
    | true =>
     obtain ⟨ht, y0, m0, d0, y, m, d, e0, h, e, hf⟩ := fits_true f iv ct un wkst en mo we yd md dy ho mi se po s n hr hm hw
     rcases hf.1 with c | c
     ·subst c
      simp (disch := omega) only [ss, cond_true, cond_false, Option.bind_some, e, first_true, List.length_nil]
     ·have hne : ¬ (mo.length : Int) = 0 := by
       have := List.length_pos_of_mem c
       omega
      simp (disch := omega) only [ss, cond_true, cond_false, Option.bind_some, e, first_true, has_spec mo m (by omega), dp c]
   have l4 : voklaw6_DaysParts.l4 n w false (f, iv, ct, un, wkst, en, mo, we, yd, md, dy, ho, mi, se, po, ()) = some (true, ()) := by
    rw [voklaw6_DaysParts.l4_eq, cond_false, l5]
   have l3 : voklaw6_DaysParts.l3 s n w (f, iv, ct, un, wkst, en, mo, we, yd, md, dy, ho, mi, se, po, ()) f iv ct un wkst en mo we dy ho mi se po = some (true, ()) := by
    rw [voklaw6_DaysParts.l3_eq]
    by_cases c : (dy.length : Int) > 0
    ·cases bp with
     | false => simp (disch := omega) only [ss, cond_true, cond_false, Option.bind_some, hpm, l4]
     | true =>
      cases w with
      | false => simp (disch := omega) only [ss, cond_true, cond_false, Option.bind_some, hpm, l4]
      | true =>
       obtain ⟨ht, y0, m0, d0, y, m, d, e0, h, e, hf⟩ := fits_true f iv ct un wkst en mo we yd md dy ho mi se po s n hr hm hw
       have hP := fits_of f iv ct un wkst en mo we [] [] dy ho mi se po s n hsp hpm ht y0 m0 d0 y m d e0 h e ⟨hf.1, .inl rfl, .inl rfl, hf.2.2.2.1, .inl (.inr (.inr (ne_len.2 c))), hf.2.2.2.2.2⟩
       simp (disch := omega) only [ss, cond_true, cond_false, Option.bind_some, hpm, hP, l4]
    ·simp (disch := omega) only [ss, cond_true, cond_false, Option.bind_some, l4]
   have l2 : voklaw6_DaysParts.l2 s n w false (f, iv, ct, un, wkst, en, mo, we, yd, md, dy, ho, mi, se, po, ()) f iv ct un wkst en mo we dy ho mi se po = some (true, ()) := by
    rw [voklaw6_DaysParts.l2_eq, cond_false, l3]
   rw [voklaw6_DaysParts.l1_eq, cond_false, hw, hC]
   simp only [Option.bind_some]
   by_cases c : (dy.length : Int) + (yd.length : Int) + (md.length : Int) > 0
   ·by_cases cf : f = 1
    ·simp (disch := omega) only [ss, cond_true, cond_false, Option.bind_some, l2]
    ·cases bq with
     | false => simp (disch := omega) only [ss, cond_true, cond_false, Option.bind_some, hq, l2]
     | true =>
      cases w with
      | false => simp (disch := omega) only [ss, cond_true, cond_false, Option.bind_some, hq, l2]
      | true =>
       obtain ⟨ht, y0, m0, d0, y, m, d, e0, h, e, hf⟩ := fits_true f iv ct un wkst en mo we yd md dy ho mi se po s n hr hm hw
       have hst : yd ≠ [] ∨ md ≠ [] ∨ dy ≠ [] := by
        rw [ne_len, ne_len, ne_len]
        omega
       have hwd : wdP f [] dy n y m d := by
        rcases hf.2.2.2.1 with q | ⟨x, hx, h1, h2⟩
        ·exact .inl q
        ·by_cases c2 : f = 2
         ·refine .inr ⟨x, hx, h1, ?_⟩
          rw [if_pos (.inl c2), if_pos (.inl c2)] at h2
          rw [if_pos (.inl c2), if_pos (.inl c2)]
          exact h2
         ·have hx0 : x.1 = 0 := Classical.byContradiction fun q => by
           obtain ⟨j, hj, ej⟩ := List.getElem_of_mem hx
           have hN := hp.2.1.2.2.2.2.2.2.2.2.2 j hj
           unfold numd gD at hN
           rw [getD_eq _ hj, ej] at hN
           rcases hN q with a | a
           ·exact c2 a
           ·exact cf a.1
          exact .inr ⟨x, hx, h1, .inl hx0⟩
       have hQ := fits_of f iv ct un wkst en [] we yd md dy ho mi se po s n hsq hq ht y0 m0 d0 y m d e0 h e ⟨.inl rfl, hf.2.1, hf.2.2.1, hwd, .inl hst, hf.2.2.2.2.2⟩
       simp (disch := omega) only [ss, cond_true, cond_false, Option.bind_some, hq, hQ, l2]
   ·simp (disch := omega) only [ss, cond_true, cond_false, Option.bind_some, l2]
end Go.GV.YtnjabmimijhjjaaGreatDoor
