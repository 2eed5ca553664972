/-
Part of the words that ExpandEvery is proved with: no statement of its own, no conditions.
-/
import Derived.Test.YtdnpbkbklnkjoaaGreatDoorZ21
set_option linter.unusedVariables false
set_option linter.unusedSimpArgs false
namespace Go.GV.YtdnpbkbklnkjoaaGreatDoor
open Go.Proofs
theorem every_loop (b s st : Int) (k : Nat) (hk : k ≤ 2000) (hb : 1 ≤ b ∧ b ≤ 1000) (hs : 0 ≤ s ∧ s ≤ 200000000000) (hst : 3600 ≤ st ∧ st ≤ 604800) : ∀ (n i : Nat), k - i = n → i ≤ k → voklaw8_ExpandEvery.l4 b s (k : Int) st (AP s (st * b) k) (i : Int) = some (true, ()) := by
 have hl := AP_len s (st * b) k
 intro n
 induction n with
 | zero =>
  intro i hn hi
  have e : i = k := by omega
  subst e
  rw [voklaw8_ExpandEvery.l4_eq, dn (show ¬ (i : Int) < (i : Int) by omega), cond_false, first_true]
  rfl
 | succ n ih =>
  intro i hn hi
  have hlt : i < k := by omega
  have ih' := ih (i + 1) (by omega) (by omega)
  rw [Int.natCast_add, Int.natCast_one] at ih'
  have m1 : (i : Int) * st ≤ 2000 * st := Int.mul_le_mul_of_nonneg_right (by omega) (by omega)
  have m2 : 0 ≤ (i : Int) * st := Int.mul_nonneg (by omega) (by omega)
  have m3 : (i : Int) * st * b ≤ 1209600000 * b := Int.mul_le_mul_of_nonneg_right (by omega) (by omega)
  have m4 : 0 ≤ (i : Int) * st * b := Int.mul_nonneg m2 (by omega)
  have e1 : st * b * (i : Int) = (i : Int) * st * b := by rw [Int.mul_comm (st * b), Int.mul_assoc]
  have hw : IntKind.i64.wrap ((i : Int) + 1) = (i : Int) + 1 := wr (by omega) (by omega)
  rw [voklaw8_ExpandEvery.l4_eq, dp (show (i : Int) < (k : Int) by omega), cond_true, dp (show (0 : Int) ≤ (i : Int) by omega), cond_true, dp (show (i : Int) < ((AP s (st * b) k).length : Int) by omega), cond_true, Int.toNat_natCast, AP_get _ _ _ _ hlt,
   wr (x := (i : Int) * st) (by omega) (by omega), wr (x := (i : Int) * st * b) (by omega) (by omega), wr (x := s + (i : Int) * st * b) (by omega) (by omega), e1, dp (show s + (i : Int) * st * b = s + (i : Int) * st * b from rfl), Bool.not_true, cond_false, hw]
  exact ih'
theorem every_go (f b s k : Int) (hf : f = 3 ∨ f = 4 ∨ f = 5) : voklaw8_ExpandEvery.l1 f b s k (stp f) = some (true, ()) := by
 have hst : 3600 ≤ stp f ∧ stp f ≤ 604800 := by
  unfold stp
  rcases hf with rfl | rfl | rfl <;> simp
 have l2t : voklaw8_ExpandEvery.l2 f b s k (stp f) true = some (true, ()) := by rw [voklaw8_ExpandEvery.l2_eq, cond_true, first_true]; rfl
 rw [voklaw8_ExpandEvery.l1_eq, dn (show ¬ stp f = 0 by omega), cond_false]
 by_cases c1 : b < 1
 ·rw [dp c1, cond_true, l2t]
 by_cases c2 : b > 1000
 ·rw [dn c1, cond_false, dp c2, cond_true, l2t]
 by_cases c3 : k < 0
 ·rw [dn c1, cond_false, dn c2, cond_false, dp c3, cond_true, l2t]
 by_cases c4 : k > 2000
 ·rw [dn c1, cond_false, dn c2, cond_false, dn c3, cond_false, dp c4, cond_true, l2t]
 by_cases c5 : s < 0
 ·rw [dn c1, cond_false, dn c2, cond_false, dn c3, cond_false, dn c4, cond_false, dp c5, cond_true, l2t]
 by_cases c6 : s > 200000000000
 ·rw [dn c1, cond_false, dn c2, cond_false, dn c3, cond_false, dn c4, cond_false, dn c5, cond_false, dp c6, cond_true, l2t]
 rw [dn c1, cond_false, dn c2, cond_false, dn c3, cond_false, dn c4, cond_false, dn c5, cond_false, dn c6, cond_false]
 have m1 : stp f * b ≤ stp f * 1000 := Int.mul_le_mul_of_nonneg_left (by omega) (by omega)
 have m2 : 0 ≤ stp f * b := Int.mul_nonneg (by omega) (by omega)
 have m3 : stp f * b * k ≤ 604800000 * k := Int.mul_le_mul_of_nonneg_right (by omega) (by omega)
 have m4 : 0 ≤ stp f * b * k := Int.mul_nonneg m2 (by omega)
 rw [wr (x := stp f * b) (by omega) (by omega), wr (x := stp f * b * k) (by omega) (by omega)]
 by_cases c7 : stp f * b * k > 316224000
 ·rw [dp c7, l2t]
 obtain ⟨n, hn⟩ : ∃ n : Nat, (n : Int) = k := ⟨k.toNat, by omega⟩
 have hs : inT s := by unfold inT; omega
 have hm := e_may (f := f) (n := b) (ct := 0) (by omega) (by omega) (by omega)
 have ho : okE s (s + stp f * b * (n : Int)) := by
  rw [hn]
  exact ⟨hs, by unfold inT; omega, fun _ => by omega⟩
 have hk := list_ok (e_short f b 0) hm ho 4096 (by omega) (by omega)
 have he : LS (eRule f b 0) s (s + stp f * b * (n : Int)) = AP s (stp f * b) n := e_mem (f := f) (n := b) (ct := 0) (by omega) (by omega) (by omega) hs n (by rw [hn]; omega)
 rw [he, AP_len, if_neg (by omega)] at hk
 have hl := every_loop b s (stp f) n (by omega) (by omega) (by omega) hst n 0 (by omega) (Nat.zero_le _)
 rw [Int.natCast_zero] at hl
 rw [dn c7, voklaw8_ExpandEvery.l2_eq, cond_false, wr (x := stp f * b) (by omega) (by omega), wr (x := stp f * b * k) (by omega) (by omega), wr (x := s + stp f * b * k) (by omega) (by omega)]
 subst hn
 rw [hk]
 simp only [Option.bind_some]
 rw [decide_true, Bool.not_true, cond_false, AP_len, dp (show (n : Int) = (n : Int) from rfl), Bool.not_true, voklaw8_ExpandEvery.l3_eq, cond_false]
 exact hl
theorem ExpandEvery_pure (f b s k : Int) : voklaw8_ExpandEvery.f f b s k = some (true, ()) := by
 rw [voklaw8_ExpandEvery.f_eq, first_true]
 simp only [Option.bind_some, Bool.not_true, cond_false]
 by_cases c3 : f = 3
 ·subst c3
  exact every_go 3 b s k (by omega)
 by_cases c4 : f = 4
 ·subst c4
  exact every_go 4 b s k (by omega)
 by_cases c5 : f = 5
 ·subst c5
  exact every_go 5 b s k (by omega)
 rw [dn c3, dn c4, dn c5, cond_false, cond_false, cond_false, voklaw8_ExpandEvery.l1_eq, dp (show (0 : Int) = 0 from rfl), cond_true, voklaw8_ExpandEvery.l2_eq, cond_true, first_true]
 rfl
end Go.GV.YtdnpbkbklnkjoaaGreatDoor
