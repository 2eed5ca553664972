/-
Decimal digits: what they spell, how long they are; numbers of at most nine digits. No program here. (This session's own text.)
-/
import Derived.Test.YtkkfgajlnpcpcaaGreatDoorGvStr
import Derived.Lib.ItoaLen
import Derived.Test.YtkkfgajlnpcpcaaGreatDoorGvList
set_option linter.unusedVariables false
set_option linter.unusedSimpArgs false
namespace Go.GV.YtkkfgajlnpcpcaaGreatDoor
/-- What digits spell. -/
def dval : Nat → List UInt8 → Nat
  | a, [] => a
  | a, c :: l => dval (10 * a + (c.toNat - 48)) l
theorem dval_app : ∀ (l m : List UInt8) (a : Nat), dval a (l ++ m) = dval (dval a l) m
  | [], _, _ => rfl
  | c :: l, m, a => dval_app l m _
theorem dval_ge : ∀ (l : List UInt8) (a : Nat), a ≤ dval a l
  | [], _ => Nat.le_refl _
  | c :: l, a => Nat.le_trans (by omega) (dval_ge l _)
def dig (c : UInt8) : Prop := 48 ≤ c.toNat ∧ c.toNat ≤ 57
theorem of48 {d : Nat} (h : d < 10) : (UInt8.ofNat (48 + d)).toNat = 48 + d := by
  rw [UInt8.toNat_ofNat', Nat.mod_eq_of_lt (by omega)]
theorem D_dig : ∀ (u : Nat), ∀ c ∈ Lib.decDigits u, dig c := by
  intro u
  induction u using Nat.strongRecOn with
  | ind u ih =>
    intro c hc
    rw [Lib.decDigits] at hc
    by_cases h : u < 10
    · rw [dif_pos h, List.mem_singleton] at hc
      subst hc
      unfold dig
      rw [of48 h]
      omega
    · rw [dif_neg h] at hc
      rcases List.mem_append.1 hc with h1 | h1
      · exact ih (u / 10) (by omega) c h1
      · rw [List.mem_singleton] at h1
        subst h1
        unfold dig
        rw [of48 (by omega)]
        omega
theorem D_val (u : Nat) : dval 0 (Lib.decDigits u) = u := by
  induction u using Nat.strongRecOn with
  | ind u ih =>
    by_cases h : u < 10
    · have e : Lib.decDigits u = [UInt8.ofNat (48 + u)] := by rw [Lib.decDigits, dif_pos h]
      have h8 := of48 h
      rw [e]
      generalize UInt8.ofNat (48 + u) = c at h8
      show 10 * 0 + (c.toNat - 48) = u
      omega
    · have e : Lib.decDigits u = Lib.decDigits (u / 10) ++ [UInt8.ofNat (48 + u % 10)] := by rw [Lib.decDigits, dif_neg h]
      rw [e, dval_app, ih (u / 10) (by omega)]
      have h8 := of48 (show u % 10 < 10 by omega)
      generalize UInt8.ofNat (48 + u % 10) = c at h8
      show 10 * (u / 10) + (c.toNat - 48) = u
      omega
theorem D_len (u : Nat) : (Lib.decDigits u).length = Lib.nDigits u := Lib.decDigits_length u
theorem D_pos (u : Nat) : 0 < (Lib.decDigits u).length := by rw [D_len]; exact Lib.nDigits_pos u
theorem D_ne (u : Nat) : Lib.decDigits u ≠ [] := fun h => by have := D_pos u; rw [h] at this; simp at this
theorem D_len9 (u : Nat) : (Lib.decDigits u).length ≤ 9 ↔ u ≤ 999999999 := by
  rw [D_len]
  have up : ∀ (k u : Nat), u < 10 ^ (k + 1) → Lib.nDigits u ≤ k + 1 := by
    intro k
    induction k with
    | zero => intro u h; rw [Lib.nDigits_small (by simpa using h)]; omega
    | succ k ih =>
      intro u h
      by_cases hu : u < 10
      · rw [Lib.nDigits_small hu]; omega
      · rw [Lib.nDigits_big hu]
        have := ih (u / 10) (by rw [Nat.pow_succ] at h; omega)
        omega
  have dn : ∀ (k u : Nat), 10 ^ k ≤ u → k + 1 ≤ Lib.nDigits u := by
    intro k
    induction k with
    | zero => intro u h; exact Lib.nDigits_pos u
    | succ k ih =>
      intro u h
      have h1 : 0 < 10 ^ k := Nat.pow_pos (by decide)
      rw [Nat.pow_succ] at h
      rw [Lib.nDigits_big (by omega)]
      have := ih (u / 10) (by omega)
      omega
  constructor
  · intro h
    refine Nat.le_of_not_lt fun hu => ?_
    have := dn 9 u (by omega)
    omega
  · intro h
    exact up 8 u (by omega)
theorem D_len20 (u : Nat) (h : u < 18446744073709551616) : (Lib.decDigits u).length ≤ 20 := by rw [D_len]; exact Lib.nDigits_le20 u h
theorem parse_ok (l : List UInt8) : ∀ (a : Nat), (∀ c ∈ l, dig c) → dval a l < 1844674407370955161 → Lib.parseUint10 a l = .ok (dval a l) := by
  induction l with
  | nil => intro a _ _; rfl
  | cons c l ih =>
    intro a hd hv
    have hc := hd c List.mem_cons_self
    have h1 := dval_ge l (10 * a + (c.toNat - 48))
    have hv : dval (10 * a + (c.toNat - 48)) l < 1844674407370955161 := hv
    show _ = Lib.NumEnd.ok (dval (10 * a + (c.toNat - 48)) l)
    unfold dig at hc
    have e : a * 10 + (c.toNat - 48) = 10 * a + (c.toNat - 48) := by omega
    rw [Lib.parseUint10, if_pos hc, if_neg (by omega), if_neg (by omega), e]
    exact ih _ (fun x hx => hd x (List.mem_cons_of_mem _ hx)) hv
/-- A number of at most nine digits, as it is printed. -/
def isN (s : List UInt8) (n : Int) : Prop := s = Lib.itoa n ∧ -999999999 ≤ n ∧ n ≤ 999999999
theorem itoa_neg {n : Int} (h : n < 0) : Lib.itoa n = 45 :: Lib.decDigits n.natAbs := by unfold Lib.itoa; rw [if_pos h]
theorem itoa_pos {n : Int} (h : ¬ n < 0) : Lib.itoa n = Lib.decDigits n.toNat := by unfold Lib.itoa; rw [if_neg h]
theorem D_head {u : Nat} {c : UInt8} {r : List UInt8} (h : Lib.decDigits u = c :: r) : c.toNat ≠ 43 ∧ c.toNat ≠ 45 := by
  have := D_dig u c (by rw [h]; exact List.mem_cons_self)
  unfold dig at this
  omega
theorem itoa_inj {n m : Int} (h : Lib.itoa n = Lib.itoa m) : n = m := by
  by_cases h1 : n < 0
  · by_cases h2 : m < 0
    · rw [itoa_neg h1, itoa_neg h2] at h
      have := congrArg (dval 0) (List.cons.inj h).2
      rw [D_val, D_val] at this
      omega
    · rw [itoa_neg h1, itoa_pos h2] at h
      exact absurd rfl (D_head h.symm).2
  · by_cases h2 : m < 0
    · rw [itoa_pos h1, itoa_neg h2] at h
      exact absurd rfl (D_head h).2
    · rw [itoa_pos h1, itoa_pos h2] at h
      have := congrArg (dval 0) h
      rw [D_val, D_val] at this
      omega
theorem atoi_small {n : Int} (h0 : -999999999 ≤ n) (h1 : n ≤ 999999999) : Lib.atoiAll (Lib.itoa n) = .ok n := by
  by_cases hn : n < 0
  · rw [itoa_neg hn]
    unfold Lib.atoiAll Lib.parseMag
    simp only
    have e45 : UInt8.toNat 45 = 45 := rfl
    simp only [e45, or_true, if_true, not_true, false_and, if_false, true_and]
    rw [if_neg (D_ne _), parse_ok _ 0 (D_dig _) (by rw [D_val]; omega), D_val]
    simp only
    rw [if_neg (by omega)]
    congr 1
    omega
  · rw [itoa_pos hn]
    cases hD : Lib.decDigits n.toNat with
    | nil => exact absurd hD (D_ne _)
    | cons c r =>
      obtain ⟨q1, q2⟩ := D_head hD
      unfold Lib.atoiAll Lib.parseMag
      simp only
      rw [if_neg (show ¬ (c.toNat = 43 ∨ c.toNat = 45) from fun q => q.elim q1 q2), if_neg (by simp), ← hD, parse_ok _ 0 (D_dig _) (by rw [D_val]; omega), D_val]
      simp only
      rw [if_neg (by omega), if_neg (fun q => q2 q.1), if_neg q2]
      congr 1
      omega
/-- The length without the sign. -/
theorem isN_len (n : Int) : (((Lib.itoa n).length : Int) - (if n < 0 then 1 else 0) ≤ 9) ↔ -999999999 ≤ n ∧ n ≤ 999999999 := by
  by_cases hn : n < 0
  · rw [itoa_neg hn, if_pos hn, List.length_cons]
    have := D_len9 n.natAbs
    omega
  · rw [itoa_pos hn, if_neg hn]
    have := D_len9 n.toNat
    omega
theorem itoa_bound {n : Int} (h0 : -9223372036854775808 ≤ n) (h1 : n ≤ 9223372036854775807) : (Lib.itoa n).length ≤ 21 := by
  by_cases hn : n < 0
  · rw [itoa_neg hn, List.length_cons]
    have := D_len20 n.natAbs (by omega)
    omega
  · rw [itoa_pos hn]
    have := D_len20 n.toNat (by omega)
    omega
end Go.GV.YtkkfgajlnpcpcaaGreatDoor
