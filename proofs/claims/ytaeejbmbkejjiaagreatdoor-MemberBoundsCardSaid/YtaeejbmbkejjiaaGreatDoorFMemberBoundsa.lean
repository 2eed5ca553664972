/-
Part of the words that MemberBounds is proved with: no statement of its own, no conditions.
-/
import Derived.Test.YtaeejbmbkejjiaaGreatDoorZ11
set_option linter.unusedVariables false
set_option linter.unusedSimpArgs false
namespace Go.GV.YtaeejbmbkejjiaaGreatDoor
open Go.Proofs
theorem ints_l1 (a : List Int) (hl : a.length ≤ 1000000) : ∀ (k i : Nat), a.length - i = k → vokref_Ints.l1 a a i = some (true, ()) := by
 intro k
 induction k with
 | zero =>
  intro i hk
  rw [vokref_Ints.l1_eq]
  simp (disch := omega) only [ss, cond_true, cond_false, Option.bind_some]
 | succ k ih =>
  intro i hk
  have := ih (i + 1) (by omega)
  rw [Int.natCast_add, Int.natCast_one] at this
  rw [vokref_Ints.l1_eq]
  simp (disch := omega) only [ss, cond_true, cond_false, Option.bind_some, ne_eq, not_true_eq_false]
  exact this
theorem ints_self (a : List Int) (hl : a.length ≤ 1000000) : vokref_Ints.f a a = some (true, ()) := by
 have := ints_l1 a hl a.length 0 (by omega)
 rw [Int.natCast_zero] at this
 rw [vokref_Ints.f_eq]
 simp (disch := omega) only [ss, cond_true, cond_false, Option.bind_some, ne_eq, not_true_eq_false]
 exact this
theorem MemberBounds_pure (r : Rl) (s t M : Int) : voklaw7_MemberBounds.f r s t M = some (true, ()) := by
 have l1t : voklaw7_MemberBounds.l1 s t M true r = some (true, ()) := by rw [voklaw7_MemberBounds.l1_eq, cond_true, first_true]; rfl
 obtain ⟨b, hb, hsh⟩ := light_some r s
 rw [voklaw7_MemberBounds.f_eq, first_true, hb]
 simp only [Option.bind_some, Bool.not_true, cond_false]
 cases b with
 | false => rw [Bool.not_false, cond_true, l1t]
 | true =>
  rw [Bool.not_true, cond_false]
  by_cases c1 : M < 1
  ·rw [dp c1, cond_true, l1t]
  by_cases c2 : M > 50000
  ·rw [dn c1, cond_false, dp c2, l1t]
  rw [dn c1, cond_false, dn c2, voklaw7_MemberBounds.l1_eq, cond_false]
  have hr := hsh rfl
  obtain ⟨bm, hm⟩ := may_some r hr
  have w2 : IntKind.i64.wrap (2 * M) = 2 * M := wr (by omega) (by omega)
  rw [w2]
  obtain ⟨n, rfl⟩ : ∃ n : Nat, M = (n : Int) := ⟨M.toNat, by omega⟩
  have e2 : (2 : Int) * (n : Int) = ((2 * n : Nat) : Int) := by omega
  rw [e2]
  have hnil : (([] : List Int).length : Int) = 0 := rfl
  have hno : member_Set.f r s t (n : Int) = some ([], 1, ()) → member_Set.f r s t ((2 * n : Nat) : Int) = some ([], 1, ()) → ((member_Set.f r s t (n : Int)).bind fun t4 => (member_Set.f r s t ((2 * n : Nat) : Int)).bind fun t5 => bif !decide (t5.2.1 = 0) then ((voklaw7_first.f).bind fun t6 => bif t6.1 then (bif !decide (t4.2.1 = 0) then (some (decide ((t4.1.length : Int) = 0), ())) else (some (false, ()))) else (some (false, ()))) else ((voklaw7_first.f).bind fun t7 => bif t7.1 then (bif ((decide (t4.2.1 = 0)) == (decide ((t5.1.length : Int) ≤ (n : Int)))) then (bif !decide (t4.2.1 = 0) then (bif decide ((t4.1.length : Int) = 0) then (some (true, ())) else ((vokref_Ints.f t4.1 t5.1).bind fun t8 => some (t8.1, ()))) else ((vokref_Ints.f t4.1 t5.1).bind fun t9 => some (t9.1, ()))) else (some (false, ()))) else (some (false, ())))) = some (true, ()) := fun h1 h2 => by
   rw [h1, h2]
   simp (disch := omega) only [ss, cond_true, cond_false, Option.bind_some, first_true, hnil]
  obtain ⟨f, iv, ct, un, wkst, en, mo, we, yd, md, dy, ho, mi, se, po, ⟨⟩⟩ := r
  by_cases hh : bm = true ∧ inT s
  ·obtain ⟨hb1, hs⟩ := hh
   subst hb1
   obtain ⟨P, hMk, hP⟩ := plan_ok f iv ct un wkst en mo we yd md dy ho mi se po s hr hm hs
   obtain ⟨hS1, hS2⟩ := qSet hP hMk t
   by_cases ht : inT t
   ·obtain ⟨G, _, _, G3⟩ := hS1 ht
    rw [G3 n (by omega) (by omega), G3 (2 * n) (by omega) (by omega)]
    by_cases c3 : G.length ≤ n
    ·rw [if_pos c3, if_pos (by omega)]
     simp (disch := omega) only [ss, cond_true, cond_false, Option.bind_some, first_true, ints_self G (by omega), beq_self_eq_true]
    ·rw [if_neg c3]
     by_cases c4 : G.length ≤ 2 * n
     ·rw [if_pos c4]
      simp (disch := omega) only [ss, cond_true, cond_false, Option.bind_some, first_true, hnil, beq_self_eq_true]
     ·rw [if_neg c4]
      simp (disch := omega) only [ss, cond_true, cond_false, Option.bind_some, first_true, hnil]
   ·exact hno (hS2 ht _) (hS2 ht _)
  ·obtain ⟨P, hMk⟩ := plan_no _ s bm hm hh
   exact hno (noSet hMk _ _) (noSet hMk _ _)
end Go.GV.YtaeejbmbkejjiaaGreatDoor
