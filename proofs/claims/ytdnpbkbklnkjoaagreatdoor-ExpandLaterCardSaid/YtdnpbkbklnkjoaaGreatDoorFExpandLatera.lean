/-
Part of the words that ExpandLater is proved with: no statement of its own, no conditions.
-/
import Derived.Test.YtdnpbkbklnkjoaaGreatDoorZ21
set_option linter.unusedVariables false
set_option linter.unusedSimpArgs false
namespace Go.GV.YtdnpbkbklnkjoaaGreatDoor
open Go.Proofs
theorem whole_val (r : Rl) (hr : shortR r) : ∃ b, voklaw8_whole.f r = some (b, ()) ∧ (b = true → (r.2.2.2.2.2.2.2.2.1 ≠ [] ∨ r.2.2.2.2.2.2.2.2.2.1 ≠ [] ∨ r.2.2.2.2.2.2.2.2.2.2.1 ≠ []) ∧ r.2.2.2.2.2.2.2.2.2.2.2.1 ≠ [] ∧ r.2.2.2.2.2.2.2.2.2.2.2.2.1 ≠ [] ∧ r.2.2.2.2.2.2.2.2.2.2.2.2.2.1 ≠ []) := by
 unfold shortR short at hr
 obtain ⟨_, _, k3, k4, k5, k6, k7, k8, _⟩ := hr
 rw [voklaw8_whole.f_eq, ne_len, ne_len, ne_len, ne_len, ne_len, ne_len]
 generalize r.2.2.2.2.2.2.2.2.1.length = a at k3 ⊢
 generalize r.2.2.2.2.2.2.2.2.2.1.length = b at k4 ⊢
 generalize r.2.2.2.2.2.2.2.2.2.2.1.length = c at k5 ⊢
 generalize r.2.2.2.2.2.2.2.2.2.2.2.1.length = d at k6 ⊢
 generalize r.2.2.2.2.2.2.2.2.2.2.2.2.1.length = e at k7 ⊢
 generalize r.2.2.2.2.2.2.2.2.2.2.2.2.2.1.length = g at k8 ⊢
 rw [wr (x := (a : Int) + (b : Int)) (by omega) (by omega), wr (x := (a : Int) + (b : Int) + (c : Int)) (by omega) (by omega)]
 by_cases c1 : (a : Int) + (b : Int) + (c : Int) > 0
 ·rw [dp c1, cond_true]
  by_cases c2 : (d : Int) > 0
  ·rw [dp c2, cond_true]
   by_cases c3 : (e : Int) > 0
   ·rw [dp c3, cond_true]
    exact ⟨_, rfl, fun q => ⟨by omega, c2, c3, of_decide_eq_true q⟩⟩
   ·rw [dn c3, cond_false]
    exact ⟨_, rfl, fun q => by cases q⟩
  ·rw [dn c2, cond_false]
   exact ⟨_, rfl, fun q => by cases q⟩
 ·rw [dn c1, cond_false]
  exact ⟨_, rfl, fun q => by cases q⟩
theorem fits_start {f wkst : Int} {mo we yd md : List Int} {dy : List Dy} (h : yd ≠ [] ∨ md ≠ [] ∨ dy ≠ []) {s s' : Int} (hs : inT s) (hs' : inT s') (n : Int) : fitsB f wkst mo we yd md dy s n = fitsB f wkst mo we yd md dy s' n := by
 have key : ∀ {s s' : Int}, inT s' → (∃ y0 m0 d0 y m d, isDate (s / 86400) y0 m0 d0 ∧ isDate n y m d ∧ fitP f wkst mo we yd md dy m0 d0 (wk (s / 86400)) n y m d) → (∃ y0 m0 d0 y m d, isDate (s' / 86400) y0 m0 d0 ∧ isDate n y m d ∧ fitP f wkst mo we yd md dy m0 d0 (wk (s' / 86400)) n y m d) := by
  intro s s' hs' q
  obtain ⟨y0, m0, d0, y, m, d, _, h1, h2, h3, h4, h5, _, h6⟩ := q
  obtain ⟨y0', m0', d0', e0, _⟩ := date_spec (s' / 86400) (inT_day hs').1 (inT_day hs').2
  exact ⟨y0', m0', d0', y, m, d, e0, h1, h2, h3, h4, h5, .inl h, h6⟩
 unfold fitsB
 rw [show (∃ y0 m0 d0 y m d, isDate (s / 86400) y0 m0 d0 ∧ isDate n y m d ∧ fitP f wkst mo we yd md dy m0 d0 (wk (s / 86400)) n y m d) = (∃ y0 m0 d0 y m d, isDate (s' / 86400) y0 m0 d0 ∧ isDate n y m d ∧ fitP f wkst mo we yd md dy m0 d0 (wk (s' / 86400)) n y m d) from propext ⟨key hs', key hs⟩]
theorem later_bel {f wkst : Int} {mo we yd md : List Int} {dy : List Dy} {ho mi se : List Int} (h : yd ≠ [] ∨ md ≠ [] ∨ dy ≠ []) (h1 : ho ≠ []) (h2 : mi ≠ []) (h3 : se ≠ []) {s s' : Int} (hs : inT s) (hs' : inT s') (hss : s ≤ s') (x : Int) :
  belR (f, 1, 0, 0, wkst, false, mo, we, yd, md, dy, ho, mi, se, [], ()) s' x ↔ belR (f, 1, 0, 0, wkst, false, mo, we, yd, md, dy, ho, mi, se, [], ()) s x ∧ s' ≤ x := by
 have hraw : ∀ {s s' : Int}, inT s → inT s' → rawP 1 s' (fitsB f wkst mo we yd md dy s') (per f wkst we) (hoursL f ho s') (minsL f mi s') (secsL f se s') x → rawP 1 s (fitsB f wkst mo we yd md dy s) (per f wkst we) (hoursL f ho s) (minsL f mi s) (secsL f se s) x := by
  intro s s' hs hs' q
  have a1 : hoursL f ho s = ho := by unfold hoursL tms; rw [if_neg h1]
  have a2 : minsL f mi s = mi := by unfold minsL tms; rw [if_neg h2]
  have a3 : secsL f se s = se := by unfold secsL tms; rw [if_neg h3]
  have b1 : hoursL f ho s' = ho := by unfold hoursL tms; rw [if_neg h1]
  have b2 : minsL f mi s' = mi := by unfold minsL tms; rw [if_neg h2]
  have b3 : secsL f se s' = se := by unfold secsL tms; rw [if_neg h3]
  obtain ⟨q1, q2, _, q4⟩ := q
  rw [b1, b2, b3] at q2
  rw [a1, a2, a3]
  exact ⟨q1, q2, Int.tmod_one _, by rw [fits_start h hs hs']; exact q4⟩
 constructor
 ·rintro ⟨q1, q2, q3, q4⟩
  exact ⟨⟨hraw hs hs' q1, by omega, q3, .inl rfl⟩, q2⟩
 ·rintro ⟨⟨q1, _, q3, _⟩, q2⟩
  exact ⟨hraw hs' hs q1, q2, q3, .inl rfl⟩
theorem ExpandLater_pure (r : Rl) (s e i : Int) : voklaw8_ExpandLater.f r s e i = some (true, ()) := by
 obtain ⟨b, hb, hsh⟩ := light_some r s e
 rw [voklaw8_ExpandLater.f_eq, first_true, hb]
 simp only [Option.bind_some, Bool.not_true, cond_false]
 cases b with
 | false => rfl
 | true =>
  rw [Bool.not_true, cond_false]
  have hr := hsh rfl
  have hcp := copy_rule r hr
  obtain ⟨f, iv, ct, un, wkst, en, mo, we, yd, md, dy, ho, mi, se, po, ⟨⟩⟩ := r
  have l1t : ∀ L, voklaw8_ExpandLater.l1 e i L true f 1 0 0 wkst false mo we yd md dy ho mi se = some (true, ()) := fun L => by rw [voklaw8_ExpandLater.l1_eq, cond_true, first_true]; rfl
  rw [hcp]
  simp only [Option.bind_some]
  have hra : shortR (f, 1, 0, 0, wkst, false, mo, we, yd, md, dy, ho, mi, se, [], ()) := ⟨hr.1, hr.2.1, hr.2.2.1, hr.2.2.2.1, hr.2.2.2.2.1, hr.2.2.2.2.2.1, hr.2.2.2.2.2.2.1, hr.2.2.2.2.2.2.2.1, by simp⟩
  obtain ⟨L, cd, h1, h2, h3, _⟩ := list_any _ hra s e 4096 (by omega) (by omega)
  rw [h1]
  simp only [Option.bind_some]
  by_cases c : cd = 0
  ·obtain ⟨hm, hok, hL, hlen⟩ := h3 c
   rw [dp c, Bool.not_true, cond_false]
   by_cases c1 : i < 0
   ·rw [dp c1, cond_true, l1t]
   by_cases c2 : i ≥ (L.length : Int)
   ·rw [dn c1, cond_false, dp c2, cond_true, l1t]
   rw [dn c1, cond_false, dn c2, cond_false]
   obtain ⟨bw, hbw, hw⟩ := whole_val _ hra
   rw [hbw]
   simp only [Option.bind_some]
   cases bw with
   | false => rw [Bool.not_false, l1t]
   | true =>
    obtain ⟨w1, w2, w3, w4⟩ := hw rfl
    have hLA : L = memR (f, 1, 0, 0, wkst, false, mo, we, yd, md, dy, ho, mi, se, [], ()) s e := hL
    have hlt : i.toNat < L.length := by omega
    have hmem := get_mem hlt
    have hmem' := hmem
    rw [hL] at hmem'
    have hin := LS_sub hmem'
    rw [← hL] at hin
    obtain ⟨g1, g2, g3⟩ := hok
    have hx : inT (L.getD i.toNat 0) := hin.1.1.1
    have hok' : okE (L.getD i.toNat 0) e := ⟨hx, g2, fun q => by omega⟩
    have hk := list_ok hra hm hok' 4096 (by omega) (by omega)
    have hLS : LS (f, 1, 0, 0, wkst, false, mo, we, yd, md, dy, ho, mi, se, [], ()) (L.getD i.toNat 0) e = L.drop i.toNat := by
     show memR (f, 1, 0, 0, wkst, false, mo, we, yd, md, dy, ho, mi, se, [], ()) (L.getD i.toNat 0) e = _
     have hRL : Rise L := by rw [hL]; exact rise_LS _ _ _
     refine rise_ext (rise_memR _ _ _) (List.Pairwise.sublist (List.drop_sublist _ _) hRL) fun x => ?_
     rw [mem_memR, later_bel w1 w2 w3 w4 g1 hx hin.2.1]
     have hsp : L = L.take i.toNat ++ L.drop i.toNat := (List.take_append_drop _ _).symm
     have hrr := hRL
     rw [hsp] at hrr
     have hrr := rise_app.1 hrr
     have hd := drop_getD' 0 hlt
     constructor
     ·rintro ⟨⟨q1, q2⟩, q3⟩
      have : x ∈ L := by rw [hLA]; exact mem_memR.2 ⟨q1, q3⟩
      rw [hsp] at this
      rcases List.mem_append.1 this with z | z
      ·have := hrr.2.2 x z (L.getD i.toNat 0) (by rw [hd]; exact List.mem_cons_self ..)
       omega
      ·exact z
     ·intro q
      have : x ∈ L := List.mem_of_mem_drop q
      rw [hLA] at this
      have h4 := mem_memR.1 this
      refine ⟨⟨h4.1, ?_⟩, h4.2⟩
      rw [hd] at q
      rcases List.mem_cons.1 q with z | z
      ·omega
      ·have h5 := hrr.2.1
       rw [hd] at h5
       have := (rise_cons.1 h5).1 x z
       omega
    rw [hLS, if_neg (by rw [List.length_drop]; omega)] at hk
    rw [Bool.not_true, voklaw8_ExpandLater.l1_eq, cond_false, dp (show 0 ≤ i by omega), cond_true, dp (show i < (L.length : Int) by omega), cond_true, hk, first_true]
    simp only [Option.bind_some]
    rw [ints_self _ (by rw [List.length_drop]; omega), dp (show i ≤ (L.length : Int) by omega)]
    rfl
  ·rw [dn c, Bool.not_false, cond_true, l1t]
end Go.GV.YtdnpbkbklnkjoaaGreatDoor
