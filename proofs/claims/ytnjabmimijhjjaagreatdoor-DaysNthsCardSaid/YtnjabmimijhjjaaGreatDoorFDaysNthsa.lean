/-
Part of the words that DaysNths is proved with: no statement of its own, no conditions.
-/
import Derived.Test.YtnjabmimijhjjaaGreatDoorZ10
set_option linter.unusedVariables false
set_option linter.unusedSimpArgs false
namespace Go.GV.YtnjabmimijhjjaaGreatDoor
open Go.Proofs
theorem month_spec (m : Int) : civil_month.f m = some (decide (1 ≤ m ∧ m ≤ 12), ()) := by
 rw [civil_month.f_eq]
 by_cases c : 1 ≤ m
 ·by_cases c2 : m ≤ 12
  ·simp (disch := omega) only [ss, cond_true, cond_false, Option.bind_some, ge_iff_le]
  ·simp (disch := omega) only [ss, cond_true, cond_false, Option.bind_some, ge_iff_le]
 ·simp (disch := omega) only [ss, cond_true, cond_false, Option.bind_some, ge_iff_le]
def nth1 (y m w : Int) : Int := 1 + (w - (fst_ y + cum y m + 3)) % 7
theorem nth1_bd (y m w : Int) : 1 ≤ nth1 y m w ∧ nth1 y m w ≤ 7 := by unfold nth1; omega
theorem mlen28 (y m : Int) (h1 : 1 ≤ m) (h2 : m ≤ 12) : 28 ≤ mlen y m ∧ mlen y m ≤ 31 := by
 have hb := mlen_bd y m
 refine ⟨?_, hb.2.1⟩
 unfold mlen
 split
 ·split <;> omega
 ·split
  ·omega
  ·rw [if_pos ⟨h1, h2⟩]
   omega
theorem nth_l1 (y m k w : Int) (hy : 1 ≤ y ∧ y ≤ 9999) (hm : 1 ≤ m ∧ m ≤ 12) (hk : 1 ≤ k ∧ k ≤ 5) (hw : 0 ≤ w ∧ w ≤ 6) : civil_Nth.f y m k w = civil_Nth.l2 y m k (nth1 y m w + 7 * (k - 1)) := by
 have hN := number_civil y m 1 hy.1 (by omega) hm.1 hm.2 (by omega) (by omega)
 have e1 : fst_ y + 1 - 1 + cum y m = fst_ y + cum y m := by omega
 rw [e1] at hN
 have hb := wk_bd (fst_ y + cum y m)
 have hn := nth1_bd y m w
 have e : 1 + (w - wk (fst_ y + cum y m) + 7) % 7 = nth1 y m w := by unfold wk nth1; omega
 rw [civil_Nth.f_eq, civyear_spec, dp (show 1 ≤ y ∧ y ≤ 9999 from hy)]
 simp only [Option.bind_some]
 rw [month_spec, dp (show 1 ≤ m ∧ m ≤ 12 from hm)]
 simp only [Option.bind_some]
 rw [wday_spec, dp (show 0 ≤ w ∧ w ≤ 6 from hw)]
 rw [dn (show ¬ k < 1 by omega), dn (show ¬ k > 5 by omega)]
 simp only [Option.bind_some, Bool.not_true, cond_false]
 rw [civil_Nth.l1_eq, cond_false, hN]
 simp only [Option.bind_some]
 rw [weekday_spec]
 simp (disch := omega) only [ss, cond_true, cond_false, Option.bind_some, tmn (show (0 : Int) ≤ w - wk (fst_ y + cum y m) + 7 by omega), e]
theorem nth_1 (y m w : Int) (hy : 1 ≤ y ∧ y ≤ 9999) (hm : 1 ≤ m ∧ m ≤ 12) (hw : 0 ≤ w ∧ w ≤ 6) : civil_Nth.f y m 1 w = some (nth1 y m w, 0, ()) := by
 rw [nth_l1 y m 1 w hy hm (by omega) hw, civil_Nth.l2_eq, show nth1 y m w + 7 * (1 - 1) = nth1 y m w by omega]
 simp (disch := omega) only [ss, cond_true, cond_false, Option.bind_some, civil_Nth.l3_eq]
def nthL (y m w : Int) : Int := if nth1 y m w + 28 > mlen y m then nth1 y m w + 21 else nth1 y m w + 28
theorem nth_5 (y m w : Int) (hy : 1 ≤ y ∧ y ≤ 9999) (hm : 1 ≤ m ∧ m ≤ 12) (hw : 0 ≤ w ∧ w ≤ 6) : civil_Nth.f y m 5 w = some (nthL y m w, 0, ()) := by
 have hn := nth1_bd y m w
 have hl := mlen28 y m hm.1 hm.2
 have hL := length_spec y m (by omega)
 unfold nthL
 rw [nth_l1 y m 5 w hy hm (by omega) hw, civil_Nth.l2_eq, show nth1 y m w + 7 * (5 - 1) = nth1 y m w + 28 by omega]
 by_cases c : nth1 y m w + 28 > mlen y m
 ·rw [if_pos c]
  simp (disch := omega) only [ss, cond_true, cond_false, Option.bind_some, hL, civil_Nth.l3_eq]
  rw [civil_Nth.l2_eq]
  have e : nth1 y m w + 28 - 7 = nth1 y m w + 21 := by omega
  simp (disch := omega) only [ss, cond_true, cond_false, Option.bind_some, hL, civil_Nth.l3_eq, e]
 ·rw [if_neg c]
  simp (disch := omega) only [ss, cond_true, cond_false, Option.bind_some, hL, civil_Nth.l3_eq]
theorem nths_may (n w : Int) (hn : -5 ≤ n ∧ n ≤ 5) (hw : 0 ≤ w ∧ w ≤ 6) : rule_May.f (2, 1, 0, 0, 0, false, [], [], [], [], [(n, w, ())], [], [], [], [], ()) = some (true, ()) := by
 have hs : short ([] : List Int) [] [] [] [((n, w, ()) : Dy)] [] [] [] [] := by unfold short; simp
 have g := may_gate 2 1 0 0 0 false [] [] [] [] [(n, w, ())] [] [] [] [] hs
 have hd : dwi [((n, w, ()) : Dy)] := by
  refine ⟨fun j hj => ?_, by simp⟩
  have : j = 0 := by simp at hj; omega
  subst this
  exact ⟨show -53 ≤ n by omega, show n ≤ 53 by omega, show 0 ≤ w from hw.1, show w ≤ 6 from hw.2, fun q => by omega⟩
 rw [g.1 ⟨⟨⟨by omega, by omega, by omega, by omega, by omega, by omega, by omega, by omega⟩, (fun q => by cases q), fun _ => rfl⟩,
  ⟨wi_nil _ _ _, wi_nil _ _ _, wi_nil _ _ _, wi_nil _ _ _, wi_nil _ _ _, wi_nil _ _ _, wi_nil _ _ _, wi_nil _ _ _, hd, fun j hj q => .inl rfl⟩, (fun q => by simp at q), (fun q => by simp at q), fun q => by simp at q⟩]
 exact l7_nil _ _ _ _ _ _ _ _ _ _ _
theorem nths_fits (n w s t : Int) (hn : -5 ≤ n ∧ n ≤ 5 ∧ n ≠ 0) (hw : 0 ≤ w ∧ w ≤ 6) (ht : inT s) (y m d : Int) (h : isDate t y m d) (e : civil_Date.f t = some (y, m, d, 0, ())) :
  days_Fits.f (2, 1, 0, 0, 0, false, [], [], [], [], [(n, w, ())], [], [], [], [], ()) s t = some (decide (d = (if n > 0 then nth1 y m w + 7 * (n - 1) else nthL y m w + 7 * (n + 1))), ()) := by
 have hs : short ([] : List Int) [] [] [] [((n, w, ()) : Dy)] [] [] [] [] := by unfold short; simp
 obtain ⟨y0, m0, d0, _, e0, _⟩ := date_spec (s / 86400) (inT_day ht).1 (inT_day ht).2
 obtain ⟨b, h1, h2⟩ := fits_tells 2 1 0 0 0 false [] [] [] [] [(n, w, ())] [] [] [] [] s t hs (nths_may n w ⟨hn.1, hn.2.1⟩ hw) ht y0 m0 d0 e0 y m d h e
 rw [h1]
 congr 2
 obtain ⟨q1, q2, q3, q4, q5, q6⟩ := date_bd h
 obtain ⟨v1, v2, v3, v4⟩ := valid_iff.1 h.1
 have hl := mlen28 y m q3 q4
 have heq := h.2
 have hiff : fitP 2 0 [] [] [] [] [((n, w, ()) : Dy)] m0 d0 (wk (s / 86400)) t y m d ↔ (d = (if n > 0 then nth1 y m w + 7 * (n - 1) else nthL y m w + 7 * (n + 1))) := by
  have hwd : fitP 2 0 [] [] [] [] [((n, w, ()) : Dy)] m0 d0 (wk (s / 86400)) t y m d ↔ (w = wk t ∧ (n = (d - 1) / 7 + 1 ∨ n = -((mlen y m - d) / 7 + 1))) := by
   unfold fitP hasP wdP stP wkP
   simp [hn.2.2]
  rw [hwd]
  unfold nthL nth1 wk
  by_cases c : n > 0
  ·rw [if_pos c]
   omega
  ·rw [if_neg c]
   split <;> omega
 cases b with
 | true => exact (dp (hiff.1 (h2.1 rfl))).symm
 | false => exact (dn fun q => by have := h2.2 (hiff.2 q); cases this).symm
theorem DaysNths_pure (n w s t : Int) : voklaw6_DaysNths.f n w s t = some (true, ()) := by
 have l1t : ∀ (a b c : Int), voklaw6_DaysNths.l1 n w s t a b c true 2 1 0 0 0 false [(n, w, ())] = some (true, ()) := fun a b c => by rw [voklaw6_DaysNths.l1_eq, cond_true, first_true]; rfl
 rw [voklaw6_DaysNths.f_eq, first_true]
 simp only [Option.bind_some, Bool.not_true, cond_false]
 rcases date_both t with ⟨y, m, d, h, e⟩ | ⟨h, e⟩
 ·rw [e]
  by_cases ht : inT s
  ·have hS : stamp_May.f s = some (true, ()) := by rw [(may_mo s).1, dp ht]
   by_cases c0 : n = 0
   ·simp (disch := omega) only [ss, cond_true, cond_false, Option.bind_some, hS, l1t]
   by_cases c1 : n < -5
   ·simp (disch := omega) only [ss, cond_true, cond_false, Option.bind_some, hS, l1t]
   by_cases c2 : n > 5
   ·simp (disch := omega) only [ss, cond_true, cond_false, Option.bind_some, hS, l1t]
   by_cases c3 : w < 0
   ·simp (disch := omega) only [ss, cond_true, cond_false, Option.bind_some, hS, l1t]
   by_cases c4 : w > 6
   ·simp (disch := omega) only [ss, cond_true, cond_false, Option.bind_some, hS, l1t]
   obtain ⟨q1, q2, q3, q4, q5, q6⟩ := date_bd h
   obtain ⟨v1, v2, v3, v4⟩ := valid_iff.1 h.1
   have g1 := nth_1 y m w ⟨v1, v2⟩ ⟨q3, q4⟩ ⟨by omega, by omega⟩
   have g5 := nth_5 y m w ⟨v1, v2⟩ ⟨q3, q4⟩ ⟨by omega, by omega⟩
   have hF := nths_fits n w s t ⟨by omega, by omega, c0⟩ ⟨by omega, by omega⟩ ht y m d h e
   have nb := nth1_bd y m w
   have nL : nth1 y m w + 21 ≤ nthL y m w ∧ nthL y m w ≤ nth1 y m w + 28 := by unfold nthL; split <;> omega
   by_cases cn : n > 0
   ·rw [if_pos cn] at hF
    by_cases cd_ : d = nth1 y m w + 7 * (n - 1)
    ·rw [dp cd_] at hF
     simp (disch := omega) only [ss, cond_true, cond_false, Option.bind_some, hS, voklaw6_DaysNths.l1_eq, g1, g5, voklaw6_DaysNths.l2_eq, first_true, hF, ge_iff_le, beq_self_eq_true]
    ·rw [dn cd_] at hF
     simp (disch := omega) only [ss, cond_true, cond_false, Option.bind_some, hS, voklaw6_DaysNths.l1_eq, g1, g5, voklaw6_DaysNths.l2_eq, first_true, hF, ge_iff_le, beq_self_eq_true]
   ·rw [if_neg cn] at hF
    by_cases cd_ : d = nthL y m w + 7 * (n + 1)
    ·rw [dp cd_] at hF
     simp (disch := omega) only [ss, cond_true, cond_false, Option.bind_some, hS, voklaw6_DaysNths.l1_eq, g1, g5, voklaw6_DaysNths.l2_eq, first_true, hF, ge_iff_le, beq_self_eq_true]
    ·rw [dn cd_] at hF
     simp (disch := omega) only [ss, cond_true, cond_false, Option.bind_some, hS, voklaw6_DaysNths.l1_eq, g1, g5, voklaw6_DaysNths.l2_eq, first_true, hF, ge_iff_le, beq_self_eq_true]
  ·have hS : stamp_May.f s = some (false, ()) := by rw [(may_mo s).1, dn ht]
   simp (disch := omega) only [ss, cond_true, cond_false, Option.bind_some, hS, l1t]
 ·rw [e]
  simp (disch := omega) only [ss, cond_true, cond_false, Option.bind_some, l1t]
end Go.GV.YtnjabmimijhjjaaGreatDoor
