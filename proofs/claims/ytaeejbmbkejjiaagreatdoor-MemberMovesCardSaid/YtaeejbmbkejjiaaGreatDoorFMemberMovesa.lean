/-
Part of the words that MemberMoves is proved with: no statement of its own, no conditions.
-/
import Derived.Test.YtaeejbmbkejjiaaGreatDoorZ11
set_option linter.unusedVariables false
set_option linter.unusedSimpArgs false
namespace Go.GV.YtaeejbmbkejjiaaGreatDoor
open Go.Proofs
abbrev dRule (n : Int) : Rl := (4, n, 0, 0, 0, false, [], [], [], [], [], [], [], [], [], ())
theorem d_short (n : Int) : shortR (dRule n) := by unfold shortR short; simp
theorem wi_non (lo hi : Int) (z : Bool) : wi [] lo hi z := ⟨fun j hj => absurd hj (by simp), Nat.zero_le _⟩
theorem l7_non (f iv ct un wkst : Int) (en : Bool) (mo we yd md : List Int) (dy : List Dy) : rule_May.l5 (f, iv, ct, un, wkst, en, mo, we, yd, md, dy, [], [], [], [], ()) = some (true, ()) := by
 have hnil : (([] : List Int).length : Int) = 0 := rfl
 have hm1 : mm true (0 : Int) 1 = 1 := rfl
 have e : IntKind.i64.wrap (IntKind.i64.wrap (1 * 1) * 1) = 1 := by decide
 rw [rule_May.l5_eq]
 by_cases c4 : f > 4
 ·simp (disch := omega) only [ss, cond_true, cond_false, Option.bind_some, hnil, rule_May.l6_eq, rule_May.l7_eq, hm1, e]
 ·simp (disch := omega) only [ss, cond_true, cond_false, Option.bind_some, hnil, rule_May.l6_eq, rule_May.l7_eq, hm1, e]
theorem d_may (n : Int) (h : 1 ≤ n ∧ n ≤ 1000) : rule_May.f (dRule n) = some (true, ()) := by
 have g := may_gate 4 n 0 0 0 false [] [] [] [] [] [] [] [] [] (d_short n)
 rw [g.1 ⟨⟨⟨by omega, by omega, h.1, h.2, by omega, by omega, by omega, by omega⟩, (fun q => by cases q), fun _ => rfl⟩, ⟨wi_non _ _ _, wi_non _ _ _, wi_non _ _ _, wi_non _ _ _, wi_non _ _ _, wi_non _ _ _, wi_non _ _ _, wi_non _ _ _, ⟨⟨fun j hj => absurd hj (by simp), Nat.zero_le _⟩, fun j hj => absurd hj (by simp)⟩⟩, by simp, by simp, by simp⟩]
 exact l7_non _ _ _ _ _ _ _ _ _ _ _
theorem d_fits (s n : Int) (h0 : -719162 ≤ s / 86400 ∧ s / 86400 ≤ 2932896) (hn : -719162 ≤ n ∧ n ≤ 2932896) : fitsB 4 0 [] [] [] [] [] s n = true := by
 obtain ⟨y0, m0, d0, e0, _⟩ := date_spec (s / 86400) h0.1 h0.2
 obtain ⟨y, m, d, e, _⟩ := date_spec n hn.1 hn.2
 refine ind_t ⟨y0, m0, d0, y, m, d, e0, e, ?_⟩
 unfold fitP hasP wdP stP wkP
 simp
theorem d_per (t : Int) : per 4 0 [] t = t / 86400 := (per_eq (.inl ⟨by omega, .inr (.inr (.inr (.inr ⟨rfl, rfl⟩)))⟩)).symm
theorem d_raw (n s x : Int) (hs : inT s) (hx : inT x) {P : PlT} (hP : PlanOK P (dRule n) s (fitsB 4 0 [] [] [] [] [] s) (per 4 0 []) (hoursL 4 [] s) (minsL 4 [] s) (secsL 4 [] s)) : rawP n s (fitsB 4 0 [] [] [] [] [] s) (per 4 0 []) (hoursL 4 [] s) (minsL 4 [] s) (secsL 4 [] s) x ↔ x % 86400 = s % 86400 ∧ Int.tmod (x / 86400 - s / 86400) n = 0 := by
 have hm := mem_tod (h := hoursL 4 [] s) hP.om.2.1 hP.oc.2.1 (x % 86400)
 have a1 : hoursL 4 [] s = [s % 86400 / 3600] := rfl
 have a2 : minsL 4 [] s = [s % 86400 / 60 % 60] := rfl
 have a3 : secsL 4 [] s = [s % 86400 % 60] := rfl
 unfold rawP inP
 rw [hm, a1, a2, a3, d_per, d_per, d_fits s _ (inT_day hs) (inT_day hx), List.mem_singleton, List.mem_singleton, List.mem_singleton]
 constructor
 ·rintro ⟨_, q, q2, _⟩
  exact ⟨by omega, q2⟩
 ·rintro ⟨q, q2⟩
  exact ⟨hx, by omega, q2, rfl⟩
theorem MemberMoves_pure (n s k o : Int) : voklaw7_MemberMoves.f n s k o = some (true, ()) := by
 have l1t : voklaw7_MemberMoves.l1 n s k o true 4 n 0 0 0 false = some (true, ()) := by rw [voklaw7_MemberMoves.l1_eq, cond_true, first_true]; rfl
 rw [voklaw7_MemberMoves.f_eq, first_true]
 simp only [Option.bind_some, Bool.not_true, cond_false]
 by_cases c1 : n < 1
 ·rw [dp c1, cond_true, l1t]
 by_cases c2 : n > 1000
 ·rw [dn c1, cond_false, dp c2, cond_true, l1t]
 by_cases c3 : s < 0
 ·rw [dn c1, cond_false, dn c2, cond_false, dp c3, cond_true, l1t]
 by_cases c4 : s > 200000000000
 ·rw [dn c1, cond_false, dn c2, cond_false, dn c3, cond_false, dp c4, cond_true, l1t]
 by_cases c5 : k < 0
 ·rw [dn c1, cond_false, dn c2, cond_false, dn c3, cond_false, dn c4, cond_false, dp c5, cond_true, l1t]
 by_cases c6 : k > 100000
 ·rw [dn c1, cond_false, dn c2, cond_false, dn c3, cond_false, dn c4, cond_false, dn c5, cond_false, dp c6, cond_true, l1t]
 by_cases c7 : o < 1
 ·rw [dn c1, cond_false, dn c2, cond_false, dn c3, cond_false, dn c4, cond_false, dn c5, cond_false, dn c6, cond_false, dp c7, cond_true, l1t]
 by_cases c8 : o > 86399
 ·rw [dn c1, cond_false, dn c2, cond_false, dn c3, cond_false, dn c4, cond_false, dn c5, cond_false, dn c6, cond_false, dn c7, cond_false, dp c8, l1t]
 rw [dn c1, cond_false, dn c2, cond_false, dn c3, cond_false, dn c4, cond_false, dn c5, cond_false, dn c6, cond_false, dn c7, cond_false, dn c8, voklaw7_MemberMoves.l1_eq, cond_false, first_true]
 have w1 : IntKind.i64.wrap (86400 * k) = 86400 * k := wr (by omega) (by omega)
 have w2 : IntKind.i64.wrap (s + 86400 * k) = s + 86400 * k := wr (by omega) (by omega)
 have w3 : IntKind.i64.wrap (s + 86400 * k + o) = s + 86400 * k + o := wr (by omega) (by omega)
 simp only [Option.bind_some, cond_true, w1, w2, w3]
 rw [dn (show ¬ n = 0 by omega), Bool.not_false]
 have hs : inT s := by unfold inT; omega
 have ht : inT (s + 86400 * k) := by unfold inT; omega
 have ho : inT (s + 86400 * k + o) := by unfold inT; omega
 have hm := d_may n (by omega)
 obtain ⟨P, hMk, hP⟩ := plan_ok 4 n 0 0 0 false [] [] [] [] [] [] [] [] [] s (d_short n) hm hs
 obtain ⟨P', hMk', hP'⟩ := plan_ok 4 n 0 0 0 false [] [] [] [] [] [] [] [] [] (s + 86400 * k) (d_short n) hm ht
 have r1 := d_raw n s (s + 86400 * k) hs ht hP
 have r2 := d_raw n s (s + 86400 * k + o) hs ho hP
 have e1 : (s + 86400 * k) / 86400 - s / 86400 = k := by omega
 rw [e1, tmn (show 0 ≤ k by omega)] at r1
 have h1 := qHas hP hMk (s + 86400 * k)
 have h2 := qHas hP hMk (s + 86400 * k + o)
 have h3 := qRaw hP hMk (s + 86400 * k)
 have h4 := qHas hP' hMk' s
 rw [h1, h2, h3, h4, tmn (show 0 ≤ k by omega)]
 simp only [Option.bind_some, cond_true]
 have e2 : ind (rawP n s (fitsB 4 0 [] [] [] [] [] s) (per 4 0 []) (hoursL 4 [] s) (minsL 4 [] s) (secsL 4 [] s) (s + 86400 * k)) = decide (k % n = 0) := by
  by_cases c : k % n = 0
  ·rw [dp c, ind_t (r1.2 ⟨by omega, c⟩)]
  ·rw [dn c, ind_f (fun q => c (r1.1 q).2)]
 have e3 : ind (belP n 0 false [] s (fitsB 4 0 [] [] [] [] [] s) (per 4 0 []) (hoursL 4 [] s) (minsL 4 [] s) (secsL 4 [] s) (s + 86400 * k)) = decide (k % n = 0) := by
  by_cases c : k % n = 0
  ·rw [dp c, ind_t]
   exact ⟨r1.2 ⟨by omega, c⟩, by omega, (fun q => by cases q), .inl rfl⟩
  ·rw [dn c, ind_f (fun q => c (r1.1 q.1).2)]
 have e4 : ind (belP n 0 false [] s (fitsB 4 0 [] [] [] [] [] s) (per 4 0 []) (hoursL 4 [] s) (minsL 4 [] s) (secsL 4 [] s) (s + 86400 * k + o)) = false := by
  refine ind_f fun q => ?_
  have := (r2.1 q.1).1
  omega
 rw [e2, e3, e4, beq_self_eq_true, cond_true, Bool.not_false, cond_true, cond_true]
 by_cases c : k = 0
 ·rw [dp c]
  rfl
 ·rw [dn c, cond_false, ind_f]
  ·rfl
  ·intro q
   have := q.2.1
   omega
end Go.GV.YtaeejbmbkejjiaaGreatDoor
