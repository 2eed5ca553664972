/-
Part of the words that MemberPlaces is proved with: no statement of its own, no conditions.
-/
import Derived.Test.YtaeejbmbkejjiaaGreatDoorZ11
set_option linter.unusedVariables false
set_option linter.unusedSimpArgs false
namespace Go.GV.YtaeejbmbkejjiaaGreatDoor
open Go.Proofs
theorem places_loop (f iv ct un wkst : Int) (en : Bool) (mo we yd md : List Int) (dy : List Dy) (ho mi se po : List Int) (s p : Int) (G : List Int) (hl : G.length ≤ 1000000) (hp : 1 ≤ p ∧ p ≤ 300)
  (h : ∀ i : Nat, i < G.length → member_Has.f (f, iv, ct, un, wkst, en, mo, we, yd, md, dy, ho, mi, se, [-p, p], ()) s (G.getD i 0) = some (ind (((i : Int) + 1 = p ∨ (G.length : Int) - i = p) ∧ s ≤ G.getD i 0 ∧ (en = true → G.getD i 0 ≤ un)), ())) :
  ∀ (k i : Nat), G.length - i = k → i ≤ G.length → voklaw7_MemberPlaces.l3 s p G (i : Int) (f, iv, ct, un, wkst, en, mo, we, yd, md, dy, ho, mi, se, po, ()) f iv ct un wkst en mo we yd md dy ho mi se [-p, p] = some (true, ()) := by
 intro k
 induction k with
 | zero =>
  intro i hk hi
  rw [voklaw7_MemberPlaces.l3_eq, dn (show ¬ (i : Int) < (G.length : Int) by omega), cond_false, voklaw7_MemberPlaces.l4_eq, cond_false, voklaw7_MemberPlaces.l6_eq, first_true]
  rfl
 | succ k ih =>
  intro i hk hi
  have hlt : i < G.length := by omega
  have ih' := ih (i + 1) (by omega) (by omega)
  rw [Int.natCast_add, Int.natCast_one] at ih'
  rw [voklaw7_MemberPlaces.l3_eq, dp (show (i : Int) < (G.length : Int) by omega), cond_true]
  by_cases c40 : (i : Int) < 40
  ·have w1 : IntKind.i64.wrap ((i : Int) + 1) = (i : Int) + 1 := wr (by omega) (by omega)
   have w2 : IntKind.i64.wrap ((G.length : Int) - (i : Int)) = (G.length : Int) - (i : Int) := wr (by omega) (by omega)
   have hH := h i hlt
   have hl5 : ∀ B : Bool, (B = true ↔ ((i : Int) + 1 = p ∨ (G.length : Int) - i = p) ∧ s ≤ G.getD i 0 ∧ (en = true → G.getD i 0 ≤ un)) → voklaw7_MemberPlaces.l5 s p G (i : Int) B (f, iv, ct, un, wkst, en, mo, we, yd, md, dy, ho, mi, se, po, ()) f iv ct un wkst en mo we yd md dy ho mi se [-p, p] = some (true, ()) := fun B hB => by
    have e : ind (((i : Int) + 1 = p ∨ (G.length : Int) - i = p) ∧ s ≤ G.getD i 0 ∧ (en = true → G.getD i 0 ≤ un)) = B := by
     cases B with
     | true => exact ind_t (hB.1 rfl)
     | false => exact ind_f (fun q => by have := hB.2 q; cases this)
    rw [e] at hH
    rw [voklaw7_MemberPlaces.l5_eq, Int.toNat_natCast, dp (show (0 : Int) ≤ (i : Int) by omega), dp (show (i : Int) < (G.length : Int) by omega), cond_true, cond_true, hH, Option.bind_some, beq_self_eq_true, Bool.not_true, cond_false, w1]
    exact ih'
   rw [dp c40, voklaw7_MemberPlaces.l4_eq, cond_true, w1, w2, Int.toNat_natCast, dp (show (0 : Int) ≤ (i : Int) by omega), dp (show (i : Int) < (G.length : Int) by omega), cond_true, cond_true]
   generalize G.getD i 0 = y at hl5 ⊢
   by_cases c1 : (i : Int) + 1 = p
   ·rw [dp c1, cond_true]
    by_cases c2 : y ≥ s
    ·rw [dp c2, cond_true]
     cases en with
     | false => exact hl5 true ⟨fun _ => ⟨.inl c1, c2, (fun q => by cases q)⟩, fun _ => rfl⟩
     | true => exact hl5 _ ⟨fun q => ⟨.inl c1, c2, fun _ => of_decide_eq_true q⟩, fun q => dp (q.2.2 rfl)⟩
    ·rw [dn c2, cond_false]
     exact hl5 false ⟨(fun q => by cases q), fun q => absurd q.2.1 c2⟩
   ·rw [dn c1, cond_false]
    by_cases c3 : (G.length : Int) - (i : Int) = p
    ·rw [dp c3, cond_true]
     by_cases c2 : y ≥ s
     ·rw [dp c2, cond_true]
      cases en with
      | false => exact hl5 true ⟨fun _ => ⟨.inr c3, c2, (fun q => by cases q)⟩, fun _ => rfl⟩
      | true => exact hl5 _ ⟨fun q => ⟨.inr c3, c2, fun _ => of_decide_eq_true q⟩, fun q => dp (q.2.2 rfl)⟩
     ·rw [dn c2, cond_false]
      exact hl5 false ⟨(fun q => by cases q), fun q => absurd q.2.1 c2⟩
    ·rw [dn c3, cond_false]
     exact hl5 false ⟨(fun q => by cases q), fun q => absurd q.1 (fun z => z.elim c1 c3)⟩
  ·rw [dn c40, voklaw7_MemberPlaces.l4_eq, cond_false, voklaw7_MemberPlaces.l6_eq, first_true]
   rfl
theorem pick_one (f iv ct un wkst : Int) (en : Bool) (mo we yd md : List Int) (dy : List Dy) (ho mi se po : List Int) (s t p : Int) (G : List Int) (G1 : Rise G) (G2 : ∀ x, x ∈ G ↔ rawP iv s (fitsB f wkst mo we yd md dy s) (per f wkst we) (hoursL f ho s) (minsL f mi s) (secsL f se s) x ∧ per f wkst we x = per f wkst we t) (c : G.length ≤ 2000) (c1 : ¬ p < 1) (i : Nat) (hi : i < G.length) (hy : rawP iv s (fitsB f wkst mo we yd md dy s) (per f wkst we) (hoursL f ho s) (minsL f mi s) (secsL f se s) (G.getD i 0) ∧ per f wkst we (G.getD i 0) = per f wkst we t) :
  belP iv un en [-p, p] s (fitsB f wkst mo we yd md dy s) (per f wkst we) (hoursL f ho s) (minsL f mi s) (secsL f se s) (G.getD i 0) ↔ (((i : Int) + 1 = p ∨ (G.length : Int) - i = p) ∧ s ≤ G.getD i 0 ∧ (en = true → G.getD i 0 ≤ un)) := by
 constructor
 ·rintro ⟨_, q1, q2, q | ⟨G', g1, g2, q3, j, j1, j2, j3⟩⟩
  ·cases q
  ·have e : G' = G := rise_ext g1 G1 fun z => by
    rw [g2, G2, hy.2]
   subst e
   rw [List.take_of_length_le (by omega)] at j1 j2 j3
   have e : j = i := rise_idx G1 j1 hi j2
   subst e
   refine ⟨?_, q1, q2⟩
   have j3 : (j : Int) + 1 ∈ [-p, p] ∨ (j : Int) - (G'.length : Int) ∈ [-p, p] := j3
   simp only [List.mem_cons, List.not_mem_nil, or_false] at j3
   omega
 ·rintro ⟨q, q1, q2⟩
  refine ⟨hy.1, q1, q2, .inr ⟨G, G1, fun z => ?_, ?_⟩⟩
  ·rw [G2, hy.2]
  ·rw [List.take_of_length_le (by omega)]
   refine ⟨by omega, i, hi, rfl, ?_⟩
   show (i : Int) + 1 ∈ [-p, p] ∨ (i : Int) - (G.length : Int) ∈ [-p, p]
   simp only [List.mem_cons, List.not_mem_nil, or_false]
   omega
theorem MemberPlaces_pure (r : Rl) (s t p : Int) : voklaw7_MemberPlaces.f r s t p = some (true, ()) := by
 have l1t : voklaw7_MemberPlaces.l1 s t p true r = some (true, ()) := by rw [voklaw7_MemberPlaces.l1_eq, cond_true, first_true]; rfl
 obtain ⟨b, hb, hsh⟩ := light_some r s
 rw [voklaw7_MemberPlaces.f_eq, first_true, hb]
 simp only [Option.bind_some, Bool.not_true, cond_false]
 cases b with
 | false => rw [Bool.not_false, cond_true, l1t]
 | true =>
  rw [Bool.not_true, cond_false]
  by_cases c1 : p < 1
  ·rw [dp c1, cond_true, l1t]
  by_cases c2 : p > 300
  ·rw [dn c1, cond_false, dp c2, l1t]
  rw [dn c1, cond_false, dn c2, voklaw7_MemberPlaces.l1_eq, cond_false]
  have hr := hsh rfl
  have hcp := copy_rule r hr
  obtain ⟨bm, hm⟩ := may_some r hr
  obtain ⟨f, iv, ct, un, wkst, en, mo, we, yd, md, dy, ho, mi, se, po, ⟨⟩⟩ := r
  have w1 : IntKind.i64.wrap (0 - p) = -p := by rw [wr (by omega) (by omega)]; omega
  have hr' : short mo we yd md dy ho mi se [-p, p] := ⟨hr.1, hr.2.1, hr.2.2.1, hr.2.2.2.1, hr.2.2.2.2.1, hr.2.2.2.2.2.1, hr.2.2.2.2.2.2.1, hr.2.2.2.2.2.2.2.1, by simp⟩
  obtain ⟨bq, hq⟩ : ∃ bq, rule_May.f (f, iv, ct, un, wkst, en, mo, we, yd, md, dy, ho, mi, se, [-p, p], ()) = some (bq, ()) := may_some _ hr'
  have l2t : ∀ l, voklaw7_MemberPlaces.l2 s p l true (f, iv, ct, un, wkst, en, mo, we, yd, md, dy, ho, mi, se, po, ()) f iv ct un wkst en mo we yd md dy ho mi se [-p, p] = some (true, ()) := fun l => by rw [voklaw7_MemberPlaces.l2_eq, cond_true, first_true]; rfl
  rw [hcp, w1]
  simp only [Option.bind_some]
  rw [hq]
  simp only [Option.bind_some]
  by_cases hh : bm = true ∧ inT s
  ·obtain ⟨hb1, hs⟩ := hh
   subst hb1
   obtain ⟨P, hMk, hP⟩ := plan_ok f iv ct un wkst en mo we yd md dy ho mi se po s hr hm hs
   obtain ⟨hS1, hS2⟩ := qSet hP hMk t
   by_cases ht : inT t
   ·obtain ⟨G, G1, G2, G3⟩ := hS1 ht
    have g := G3 2000 (by omega) (by omega)
    rw [show ((2000 : Nat) : Int) = 2000 from rfl] at g
    rw [g]
    by_cases c : G.length ≤ 2000
    ·rw [if_pos c]
     simp only [Option.bind_some]
     cases bq with
     | false => rw [Bool.not_false, cond_true, l2t]
     | true =>
      obtain ⟨P', hMk', hP'⟩ := plan_ok f iv ct un wkst en mo we yd md dy ho mi se [-p, p] s hr' hq hs
      rw [Bool.not_true, cond_false, decide_true, Bool.not_true, voklaw7_MemberPlaces.l2_eq, cond_false]
      have := places_loop f iv ct un wkst en mo we yd md dy ho mi se po s p G (by omega) (by omega) (fun i hi => by
       have hy := (G2 _).1 (get_mem hi)
       rw [qHas hP' hMk' (G.getD i 0)]
       have e := pick_one f iv ct un wkst en mo we yd md dy ho mi se po s t p G G1 G2 c c1 i hi hy
       rw [propext e]) G.length 0 (by omega) (Nat.zero_le _)
      rw [Int.natCast_zero] at this
      exact this
    ·rw [if_neg c]
     simp only [Option.bind_some]
     cases bq with
     | false => rw [Bool.not_false, cond_true, l2t]
     | true => rw [Bool.not_true, cond_false, dn (show ¬ (10 : Int) = 0 by omega), Bool.not_false, l2t]
   ·have g := hS2 ht 2000
    rw [show ((2000 : Nat) : Int) = 2000 from rfl] at g
    rw [g]
    simp only [Option.bind_some]
    cases bq with
    | false => rw [Bool.not_false, cond_true, l2t]
    | true => rw [Bool.not_true, cond_false, dn (show ¬ (1 : Int) = 0 by omega), Bool.not_false, l2t]
  ·obtain ⟨P, hMk⟩ := plan_no _ s bm hm hh
   rw [noSet hMk]
   simp only [Option.bind_some]
   cases bq with
   | false => rw [Bool.not_false, cond_true, l2t]
   | true => rw [Bool.not_true, cond_false, dn (show ¬ (1 : Int) = 0 by omega), Bool.not_false, l2t]
end Go.GV.YtaeejbmbkejjiaaGreatDoor
