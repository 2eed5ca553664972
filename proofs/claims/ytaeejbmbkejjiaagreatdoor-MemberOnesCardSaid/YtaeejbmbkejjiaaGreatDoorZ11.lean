/-
Part of the words that the laws of this seat are proved with: no statement of its own, no conditions.
-/
import Derived.Test.YtaeejbmbkejjiaaGreatDoorZ10
set_option linter.unusedVariables false
set_option linter.unusedSimpArgs false
namespace Go.GV
theorem wr {x : Int} (h1 : -9223372036854775808 ≤ x) (h2 : x ≤ 9223372036854775807) : IntKind.i64.wrap x = x := Go.IntWalk.i64_in x ⟨h1, h2⟩
theorem dp {p : Prop} [Decidable p] (h : p) : decide p = true := decide_eq_true h
theorem dn {p : Prop} [Decidable p] (h : ¬ p) : decide p = false := decide_eq_false h
theorem tn_add (n m : Nat) : ((n : Int) + (m : Int)).toNat = n + m := by omega
theorem tn_add1 (n : Nat) : ((n : Int) + 1).toNat = n + 1 := by omega
theorem tn_sub1 (n : Nat) : ((n : Int) - 1).toNat = n - 1 := by omega
theorem tn_0 : (0 : Int).toNat = 0 := rfl
theorem tn_1 : (1 : Int).toNat = 1 := rfl
theorem ss : (∀ (p : Prop) [Decidable p], p → decide p = true) ∧ (∀ (p : Prop) [Decidable p], ¬ p → decide p = false) ∧ (∀ (h : Decidable True), @decide True h = true) ∧ (∀ (h : Decidable False), @decide False h = false) ∧
  ((!true) = false) ∧ ((!false) = true) ∧ (∀ b, (true && b) = b) ∧ (∀ b, (false && b) = false) ∧ (∀ b, (b && true) = b) ∧ (∀ b, (b && false) = false) ∧
  (∀ b, (true || b) = true) ∧ (∀ b, (false || b) = b) ∧ (∀ b, (b || true) = true) ∧ (∀ b, (b || false) = b) ∧ (∀ (x : Int), -9223372036854775808 ≤ x → x ≤ 9223372036854775807 → IntKind.i64.wrap x = x) ∧
  (∀ n m : Nat, ((n : Int) + (m : Int)).toNat = n + m) ∧ (∀ n : Nat, ((n : Int) + 1).toNat = n + 1) ∧ (∀ n : Nat, ((n : Int) - 1).toNat = n - 1) ∧ ((0 : Int).toNat = 0) ∧ ((1 : Int).toNat = 1) ∧ (∀ n : Nat, (n : Int).toNat = n) :=
 ⟨fun _ => dp, fun _ => dn, fun _ => decide_true _, fun _ => decide_false _, rfl, rfl, Bool.true_and, Bool.false_and, Bool.and_true, Bool.and_false, Bool.true_or, Bool.false_or, Bool.or_true, Bool.or_false, fun _ => wr, tn_add, tn_add1, tn_sub1, tn_0, tn_1, fun _ => rfl⟩
abbrev B (s : ByteArray) : List UInt8 := s.data.toList
def I (l : List UInt8) : List Int := l.map fun b => (b.toNat : Int)
theorem okI {a : List Int} (h : ∀ x ∈ a, okInt .u8 x) : a = I (a.map fun n => UInt8.ofNat n.toNat) := by
 simp only [I, List.map_map]
 refine (List.map_id a).symm.trans (List.map_congr_left fun x hx => ?_)
 have h1 := h x hx
 simp only [okInt] at h1
 have h2 : (0 : Int) ≤ x ∧ x ≤ 255 := h1
 simp only [Function.comp, id, UInt8.toNat_ofNat']
 omega
theorem drop_cons {α : Type} (l : List α) (i : Nat) (d : α) (h : i < l.length) : l.drop i = l.getD i d :: l.drop (i + 1) := by
 rw [List.getD_eq_getElem?_getD, List.getElem?_eq_getElem h, Option.getD_some]
 exact List.drop_eq_getElem_cons h
end Go.GV
namespace Go.GV
theorem len_snoc {α : Type} (o : List α) (p : α) : (o ++ [p]).length = o.length + 1 := by simp
theorem wr_sub1 {n : Nat} (h0 : 0 < n) (h : n < 4611686018427387904) : IntKind.i64.wrap ((n : Int) - 1) = ((n - 1 : Nat) : Int) := by rw [wr (by omega) (by omega)]; omega
theorem getD_eq {α : Type} {l : List α} {i : Nat} (z : α) (h : i < l.length) : l.getD i z = l[i] := by simp [List.getD_eq_getElem?_getD, h]
theorem drop_getD' {α : Type} {l : List α} {i : Nat} (z : α) (h : i < l.length) : l.drop i = l.getD i z :: l.drop (i + 1) := drop_cons l i z h
end Go.GV
namespace Go.GV.YtaeejbmbkejjiaaGreatDoor
open Go.Proofs
def leapB (y : Int) : Bool := decide (y % 4 = 0) && (!decide (y % 100 = 0) || decide (y % 400 = 0))
def mlen (y m : Int) : Int := if m = 2 then (if leapB y = true then 29 else 28) else if m = 4 ∨ m = 6 ∨ m = 9 ∨ m = 11 then 30 else if 1 ≤ m ∧ m ≤ 12 then 31 else 0
def cumT (m : Int) : Int := if m ≤ 1 then 0 else if m = 2 then 31 else if m = 3 then 59 else if m = 4 then 90 else if m = 5 then 120 else if m = 6 then 151 else if m = 7 then 181 else if m = 8 then 212 else if m = 9 then 243 else if m = 10 then 273 else if m = 11 then 304 else if m = 12 then 334 else 365
def cum (y m : Int) : Int := cumT m + if 3 ≤ m ∧ leapB y = true then 1 else 0
def fst_ (y : Int) : Int := 365 * (y - 1) + (y - 1) / 4 - (y - 1) / 100 + (y - 1) / 400 - 719162
theorem tmn {n : Int} (h : 0 ≤ n) (k : Int) : Int.tmod n k = n % k := Int.tmod_eq_emod_of_nonneg h
theorem tdn {n : Int} (h : 0 ≤ n) (k : Int) : Int.tdiv n k = n / k := Int.tdiv_eq_ediv_of_nonneg h
theorem leap_spec (y : Int) (hy : 0 ≤ y) : civil_Leap.f y = some (leapB y, ()) := by
 rw [civil_Leap.f_eq]
 simp only [tmn hy]
 unfold leapB
 by_cases h1 : y % 4 = 0
 ·by_cases h2 : y % 100 = 0
  ·by_cases h3 : y % 400 = 0
   ·simp (disch := omega) only [ss, cond_true, cond_false, Option.bind_some]
   ·simp (disch := omega) only [ss, cond_true, cond_false, Option.bind_some]
  ·simp (disch := omega) only [ss, cond_true, cond_false, Option.bind_some]
 ·simp (disch := omega) only [ss, cond_true, cond_false, Option.bind_some]
theorem length_spec (y m : Int) (hy : 0 ≤ y) : civil_Length.f y m = some (mlen y m, ()) := by
 have hL := leap_spec y hy
 rw [civil_Length.f_eq]
 unfold mlen
 by_cases h2 : m = 2
 ·subst h2
  simp (disch := omega) only [ss, cond_true, cond_false, Option.bind_some, civil_Length.l1_eq, hL]
  cases leapB y <;> rfl
 ·rw [if_neg h2]
  by_cases h4 : m = 4 ∨ m = 6 ∨ m = 9 ∨ m = 11
  ·rw [if_pos h4]
   rcases h4 with rfl | rfl | rfl | rfl
   all_goals (simp (disch := omega) only [ss, cond_true, cond_false, Option.bind_some, civil_Length.l1_eq])
  ·rw [if_neg h4]
   by_cases hr : 1 ≤ m ∧ m ≤ 12
   ·rw [if_pos hr]
    have : m = 1 ∨ m = 3 ∨ m = 5 ∨ m = 7 ∨ m = 8 ∨ m = 10 ∨ m = 12 := by omega
    rcases this with rfl | rfl | rfl | rfl | rfl | rfl | rfl
    all_goals (simp (disch := omega) only [ss, cond_true, cond_false, Option.bind_some, civil_Length.l1_eq, civil_Length.l2_eq])
   ·rw [if_neg hr]
    simp (disch := omega) only [ss, cond_true, cond_false, Option.bind_some, civil_Length.l1_eq, civil_Length.l2_eq]
theorem mlen_bd (y m : Int) : 0 ≤ mlen y m ∧ mlen y m ≤ 31 ∧ (0 < mlen y m → 1 ≤ m ∧ m ≤ 12) := by
 unfold mlen
 split
 ·cases leapB y <;> (simp; omega)
 ·split
  ·omega
  ·split <;> omega
theorem cum_succ (y m : Int) (h1 : 1 ≤ m) (h2 : m ≤ 12) : cum y (m + 1) = cum y m + mlen y m := by
 have : m = 1 ∨ m = 2 ∨ m = 3 ∨ m = 4 ∨ m = 5 ∨ m = 6 ∨ m = 7 ∨ m = 8 ∨ m = 9 ∨ m = 10 ∨ m = 11 ∨ m = 12 := by omega
 unfold cum mlen cumT
 cases leapB y <;> (rcases this with rfl | rfl | rfl | rfl | rfl | rfl | rfl | rfl | rfl | rfl | rfl | rfl <;> simp)
theorem cum_bd (y m : Int) : 0 ≤ cum y m ∧ cum y m ≤ 366 := by
 unfold cum cumT
 split <;> (try split) <;> (repeat' split) <;> omega
def validB (y m d : Int) : Bool := decide (1 ≤ y) && decide (y ≤ 9999) && decide (1 ≤ d) && decide (d ≤ mlen y m)
theorem valid_spec (y m d : Int) : civil_Valid.f y m d = some (validB y m d, ()) := by
 rw [civil_Valid.f_eq, civil_year.f_eq]
 unfold validB
 by_cases h1 : 1 ≤ y
 ·have hL := length_spec y m (by omega)
  by_cases h2 : y ≤ 9999
  ·by_cases h3 : 1 ≤ d
   ·simp (disch := omega) only [ss, cond_true, cond_false, Option.bind_some, hL, ge_iff_le]
   ·simp (disch := omega) only [ss, cond_true, cond_false, Option.bind_some, hL, ge_iff_le]
  ·simp (disch := omega) only [ss, cond_true, cond_false, Option.bind_some, ge_iff_le]
 ·simp (disch := omega) only [ss, cond_true, cond_false, Option.bind_some, ge_iff_le]
theorem number_civil (y m d : Int) (hy : 1 ≤ y) (hy2 : y ≤ 10000) (hm : 1 ≤ m) (hm2 : m ≤ 12) (hd : 1 ≤ d) (hd2 : d ≤ 31) : civil_number.f y m d = some (fst_ y + d - 1 + cum y m, ()) := by
 rw [civil_number.f_eq]
 by_cases h3 : m < 3
 ·simp (disch := omega) only [ss, cond_true, cond_false, Option.bind_some, tdn (show 0 ≤ y - 1 + 400 by omega), tdn (show 0 ≤ 153 * (m + 12 - 3) + 2 by omega)]
  congr 2
  unfold fst_ cum cumT
  have : m = 1 ∨ m = 2 := by omega
  rcases this with rfl | rfl
  ·simp
   omega
  ·simp
   omega
 ·simp (disch := omega) only [ss, cond_true, cond_false, Option.bind_some, tdn (show 0 ≤ y + 400 by omega), tdn (show 0 ≤ 153 * (m - 3) + 2 by omega)]
  congr 2
  unfold fst_ cum cumT
  have e : (if 3 ≤ m ∧ leapB y = true then (1 : Int) else 0) = y / 4 - (y - 1) / 4 - (y / 100 - (y - 1) / 100) + (y / 400 - (y - 1) / 400) := by
   unfold leapB
   by_cases h1 : y % 4 = 0
   ·by_cases h2 : y % 100 = 0
    ·by_cases h5 : y % 400 = 0
     ·rw [if_pos ⟨by omega, by simp [h1, h2, h5]⟩]; omega
     ·rw [if_neg (by simp [h1, h2, h5])]; omega
    ·rw [if_pos ⟨by omega, by simp [h1, h2]⟩]; omega
   ·rw [if_neg (by simp [h1])]; omega
  rw [e]
  have : m = 3 ∨ m = 4 ∨ m = 5 ∨ m = 6 ∨ m = 7 ∨ m = 8 ∨ m = 9 ∨ m = 10 ∨ m = 11 ∨ m = 12 := by omega
  rcases this with rfl | rfl | rfl | rfl | rfl | rfl | rfl | rfl | rfl | rfl
  all_goals (simp; omega)
theorem fst_bd (y : Int) (hy : 1 ≤ y) (hy2 : y ≤ 10001) : -1000000 ≤ fst_ y ∧ fst_ y ≤ 4000000 := by
 unfold fst_
 omega
theorem days_spec (y m d : Int) : civil_Days.f y m d = some (if validB y m d = true then (fst_ y + d - 1 + cum y m, 0, ()) else (0, 1, ())) := by
 have h1 := valid_spec y m d
 rw [civil_Days.f_eq, h1]
 cases hv : validB y m d with
 | false => rfl
 | true =>
  unfold validB at hv
  simp only [Bool.and_eq_true, decide_eq_true_eq] at hv
  obtain ⟨⟨⟨h3, h4⟩, h5⟩, h6⟩ := hv
  have hb := mlen_bd y m
  have hm := hb.2.2 (by omega)
  have hN := number_civil y m d h3 (by omega) hm.1 hm.2 h5 (by omega)
  have hfb := fst_bd y h3 (by omega)
  have hcb := cum_bd y m
  rw [if_pos rfl]
  simp (disch := omega) only [ss, cond_true, cond_false, Option.bind_some, hN]
end Go.GV.YtaeejbmbkejjiaaGreatDoor
namespace Go.GV.YtaeejbmbkejjiaaGreatDoor
open Go.Proofs
theorem fst_step (y : Int) (hy : 1 ≤ y) : fst_ (y + 1) = fst_ y + cum y 13 := by
 unfold fst_ cum cumT
 have e : (if 3 ≤ (13 : Int) ∧ leapB y = true then (1 : Int) else 0) = y / 4 - (y - 1) / 4 - (y / 100 - (y - 1) / 100) + (y / 400 - (y - 1) / 400) := by
  unfold leapB
  by_cases h1 : y % 4 = 0
  ·by_cases h2 : y % 100 = 0
   ·by_cases h5 : y % 400 = 0
    ·rw [if_pos ⟨by omega, by simp [h1, h2, h5]⟩]; omega
    ·rw [if_neg (by simp [h1, h2, h5])]; omega
   ·rw [if_pos ⟨by omega, by simp [h1, h2]⟩]; omega
  ·rw [if_neg (by simp [h1])]; omega
 rw [e]
 simp
 omega
theorem cum13 (y : Int) : 365 ≤ cum y 13 ∧ cum y 13 ≤ 366 := by
 unfold cum cumT
 split <;> (simp; try omega)
theorem fst_mono {a b : Int} (h0 : 1 ≤ a) (h : a < b) : fst_ a + 365 ≤ fst_ b := by
 obtain ⟨k, hk⟩ := Int.eq_ofNat_of_zero_le (show 0 ≤ b - a - 1 by omega)
 have e : b = a + 1 + (k : Int) := by omega
 subst e
 clear hk h
 induction k with
 | zero =>
  have := fst_step a h0
  have := cum13 a
  simp
  omega
 | succ k ih =>
  have := fst_step (a + 1 + (k : Int)) (by omega)
  have := cum13 (a + 1 + (k : Int))
  rw [show a + 1 + ((k + 1 : Nat) : Int) = a + 1 + (k : Int) + 1 by omega]
  omega
theorem fst_mono' {a b : Int} (h0 : 1 ≤ a) (h : a ≤ b) : fst_ a ≤ fst_ b := by
 rcases Int.lt_or_eq_of_le h with h | h
 ·have := fst_mono h0 h
  omega
 ·rw [h]
  exact Int.le_refl _
theorem fst_1 : fst_ 1 = -719162 := by decide
theorem fst_10000 : fst_ 10000 = 2932897 := by decide
theorem cum_1 (y : Int) : cum y 1 = 0 := by
 unfold cum cumT
 simp
theorem cum_mono (y : Int) {a b : Int} (h0 : 1 ≤ a) (h : a ≤ b) (h1 : b ≤ 13) : cum y a ≤ cum y b := by
 obtain ⟨k, hk⟩ := Int.eq_ofNat_of_zero_le (show 0 ≤ b - a by omega)
 have e : b = a + (k : Int) := by omega
 subst e
 clear hk h
 induction k with
 | zero => simp
 | succ k ih =>
  have := ih (by omega)
  have h2 := cum_succ y (a + (k : Int)) (by omega) (by omega)
  have := mlen_bd y (a + (k : Int))
  rw [show a + ((k + 1 : Nat) : Int) = a + (k : Int) + 1 by omega, h2]
  omega
theorem year_of (n : Int) (h1 : -719162 ≤ n) (h2 : n ≤ 2932896) : ∃ y, 1 ≤ y ∧ y ≤ 9999 ∧ fst_ y ≤ n ∧ n < fst_ (y + 1) := by
 have key : ∀ k : Nat, k ≤ 9999 → n < fst_ (1 + (k : Int)) → ∃ y, 1 ≤ y ∧ y ≤ 9999 ∧ fst_ y ≤ n ∧ n < fst_ (y + 1) := by
  intro k
  induction k with
  | zero =>
   intro _ h
   rw [show (1 : Int) + ((0 : Nat) : Int) = 1 from rfl, fst_1] at h
   omega
  | succ k ih =>
   intro hk h
   by_cases c : n < fst_ (1 + (k : Int))
   ·exact ih (by omega) c
   ·exact ⟨1 + (k : Int), by omega, by omega, by omega, by rw [show (1 : Int) + (k : Int) + 1 = 1 + ((k + 1 : Nat) : Int) by omega]; exact h⟩
 refine key 9999 (Nat.le_refl _) ?_
 rw [show (1 : Int) + ((9999 : Nat) : Int) = 10000 from rfl, fst_10000]
 omega
theorem month_of (y d : Int) (h1 : 0 ≤ d) (h2 : d < cum y 13) : ∃ m, 1 ≤ m ∧ m ≤ 12 ∧ cum y m ≤ d ∧ d < cum y (m + 1) := by
 have key : ∀ k : Nat, k ≤ 12 → d < cum y (1 + (k : Int)) → ∃ m, 1 ≤ m ∧ m ≤ 12 ∧ cum y m ≤ d ∧ d < cum y (m + 1) := by
  intro k
  induction k with
  | zero =>
   intro _ h
   rw [show (1 : Int) + ((0 : Nat) : Int) = 1 from rfl, cum_1] at h
   omega
  | succ k ih =>
   intro hk h
   by_cases c : d < cum y (1 + (k : Int))
   ·exact ih (by omega) c
   ·exact ⟨1 + (k : Int), by omega, by omega, by omega, by rw [show (1 : Int) + (k : Int) + 1 = 1 + ((k + 1 : Nat) : Int) by omega]; exact h⟩
 exact key 12 (Nat.le_refl _) h2
def isDate (n y m d : Int) : Prop := validB y m d = true ∧ fst_ y + d - 1 + cum y m = n
theorem valid_iff {y m d : Int} : validB y m d = true ↔ 1 ≤ y ∧ y ≤ 9999 ∧ 1 ≤ d ∧ d ≤ mlen y m := by
 unfold validB
 simp only [Bool.and_eq_true, decide_eq_true_eq, and_assoc]
theorem date_bd {n y m d : Int} (h : isDate n y m d) : fst_ y ≤ n ∧ n < fst_ (y + 1) ∧ 1 ≤ m ∧ m ≤ 12 ∧ -719162 ≤ n ∧ n ≤ 2932896 := by
 obtain ⟨h1, h2⟩ := h
 obtain ⟨h3, h4, h5, h6⟩ := valid_iff.1 h1
 have hm := (mlen_bd y m).2.2 (by omega)
 have hc := cum_succ y m hm.1 hm.2
 have hb := cum_bd y m
 have hs := fst_step y h3
 have hmo := cum_mono y (a := m + 1) (b := 13) (by omega) (by omega) (by omega)
 have h7 := fst_mono' (a := 1) (b := y) (by omega) h3
 have h8 := fst_mono' (a := y + 1) (b := 10000) (by omega) (by omega)
 rw [fst_1] at h7
 rw [fst_10000] at h8
 exact ⟨by omega, by omega, hm.1, hm.2, by omega, by omega⟩
theorem civ_l5 (y d0 M : Int) (hy : 1 ≤ y) (hy2 : y ≤ 9999) (h1 : 0 ≤ d0) (h2 : M ≤ 12) (h3 : cum y M ≤ d0) (h4 : d0 < cum y (M + 1)) : ∀ (k : Nat) (m : Int), M - m = k → 1 ≤ m →
  civil_Date.l5 y (d0 - cum y m) m = some (y, M, d0 - cum y M + 1, 0, ()) ∧ True := by
 intro k
 induction k with
 | zero =>
  intro m hk hm
  have e : m = M := by omega
  subst e
  have hc := cum_succ y m hm h2
  have hb := cum_bd y m
  have hb2 := cum_bd y (m + 1)
  rw [civil_Date.l5_eq, length_spec y m (by omega)]
  refine ⟨?_, trivial⟩
  simp (disch := omega) only [ss, cond_true, cond_false, Option.bind_some, ge_iff_le]
 | succ k ih =>
  intro m hk hm
  have hc := cum_succ y m hm (by omega)
  have hmo := cum_mono y (a := m + 1) (b := M) (by omega) (by omega) (by omega)
  have hb := cum_bd y m
  have hb1 := cum_bd y M
  have hb2 := cum_bd y (m + 1)
  have hb3 := cum_bd y (M + 1)
  rw [civil_Date.l5_eq, length_spec y m (by omega)]
  have e : d0 - cum y m - mlen y m = d0 - cum y (m + 1) := by omega
  refine ⟨?_, trivial⟩
  simp (disch := omega) only [ss, cond_true, cond_false, Option.bind_some, ge_iff_le]
  rw [e]
  exact (ih (m + 1) (by omega) (by omega)).1
theorem num11 (y : Int) (hy : 1 ≤ y) (hy2 : y ≤ 10000) : civil_number.f y 1 1 = some (fst_ y, ()) := by
 rw [number_civil y 1 1 hy hy2 (by omega) (by omega) (by omega) (by omega), cum_1]
 congr 2
 omega
theorem civ_l4 (n Y : Int) (hY : 1 ≤ Y) (h1 : fst_ Y ≤ n) (h2 : n < fst_ (Y + 1)) : ∀ (k : Nat) (z : Int), z - Y = k → z ≤ 9999 → civil_Date.l4 n z = civil_Date.l5 Y (n - fst_ Y) 1 := by
 intro k
 have hfb := fst_bd (Y + 1) (by omega)
 induction k with
 | zero =>
  intro z hk hz
  have e : z = Y := by omega
  subst e
  have hfb := fst_bd z (by omega) (by omega)
  have hfb1 := fst_bd (z + 1) (by omega) (by omega)
  rw [civil_Date.l4_eq, num11 z (by omega) (by omega)]
  simp (disch := omega) only [ss, cond_true, cond_false, Option.bind_some, gt_iff_lt]
 | succ k ih =>
  intro z hk hz
  have hm := fst_mono' (a := Y + 1) (b := z) (by omega) (by omega)
  have hfb := fst_bd z (by omega) (by omega)
  rw [civil_Date.l4_eq, num11 z (by omega) (by omega)]
  simp (disch := omega) only [ss, cond_true, cond_false, Option.bind_some, gt_iff_lt]
  exact ih (z - 1) (by omega) (by omega)
theorem civ_l1 (n Y : Int) (hY : 1 ≤ Y) (hY2 : Y ≤ 9999) (h1 : fst_ Y ≤ n) (h2 : n < fst_ (Y + 1)) : ∀ (k : Nat) (y : Int), (Y - y).toNat = k → 1 ≤ y → y ≤ 9999 → ∃ z, Y ≤ z ∧ z ≤ 9999 ∧ civil_Date.l1 n y = civil_Date.l4 n z := by
 intro k
 induction k with
 | zero =>
  intro y hk hy hy2
  refine ⟨y, by omega, hy2, ?_⟩
  rw [civil_Date.l1_eq]
  by_cases c : y < 9999
  ·have hm := fst_mono' (a := Y + 1) (b := y + 1) (by omega) (by omega)
   have hw : IntKind.i64.wrap (y + 1) = y + 1 := wr (by omega) (by omega)
   rw [hw, num11 (y + 1) (by omega) (by omega)]
   simp (disch := omega) only [ss, cond_true, cond_false, Option.bind_some, civil_Date.l2_eq, civil_Date.l3_eq]
  ·simp (disch := omega) only [ss, cond_true, cond_false, Option.bind_some, civil_Date.l2_eq, civil_Date.l3_eq]
 | succ k ih =>
  intro y hk hy hy2
  have hm := fst_mono' (a := y + 1) (b := Y) (by omega) (by omega)
  have hw : IntKind.i64.wrap (y + 1) = y + 1 := wr (by omega) (by omega)
  obtain ⟨z, z1, z2, z3⟩ := ih (y + 1) (by omega) (by omega) (by omega)
  refine ⟨z, z1, z2, ?_⟩
  rw [civil_Date.l1_eq, hw, num11 (y + 1) (by omega) (by omega)]
  simp (disch := omega) only [ss, cond_true, cond_false, Option.bind_some, civil_Date.l2_eq]
  exact z3
theorem date_spec (n : Int) (h1 : -719162 ≤ n) (h2 : n ≤ 2932896) : ∃ y m d, isDate n y m d ∧ civil_Date.f n = some (y, m, d, 0, ()) ∧ True := by
 obtain ⟨Y, y1, y2, y3, y4⟩ := year_of n h1 h2
 have hs := fst_step Y y1
 obtain ⟨M, m1, m2, m3, m4⟩ := month_of Y (n - fst_ Y) (by omega) (by omega)
 have hc := cum_succ Y M m1 m2
 have h5 := civ_l5 Y (n - fst_ Y) M y1 y2 (by omega) m2 m3 m4 (M - 1).toNat 1 (by omega) (by omega)
 rw [cum_1, Int.sub_zero] at h5
 refine ⟨Y, M, n - fst_ Y - cum Y M + 1, ⟨valid_iff.2 ⟨y1, y2, by omega, by omega⟩, by omega⟩, ?_, ?_⟩
 ·have hz1 : (n + 719162) * 400 / 146097 + 1 ≤ 9999 := by omega
  obtain ⟨z, z1, z2, z3⟩ := civ_l1 n Y y1 y2 y3 y4 _ ((n + 719162) * 400 / 146097 + 1) rfl (by omega) hz1
  have h4 := civ_l4 n Y y1 y3 y4 (z - Y).toNat z (by omega) z2
  rw [civil_Date.f_eq, civil_day.f_eq]
  have e1 : IntKind.i64.wrap (n - -719162) = n + 719162 := by rw [wr (by omega) (by omega)]; omega
  have e2 : IntKind.i64.wrap ((n + 719162) * 400) = (n + 719162) * 400 := wr (by omega) (by omega)
  simp (disch := omega) only [ss, cond_true, cond_false, Option.bind_some, e1, e2, tdn (show 0 ≤ (n + 719162) * 400 by omega), ge_iff_le]
  rw [z3, h4]
  exact h5.1
 ·trivial
theorem date_none (n : Int) (h : ¬ (-719162 ≤ n ∧ n ≤ 2932896)) : civil_Date.f n = some (0, 0, 0, 1, ()) ∧ True := by
 rw [civil_Date.f_eq, civil_day.f_eq]
 refine ⟨?_, trivial⟩
 by_cases c : -719162 ≤ n
 ·simp (disch := omega) only [ss, cond_true, cond_false, Option.bind_some, ge_iff_le]
 ·simp (disch := omega) only [ss, cond_true, cond_false, Option.bind_some, ge_iff_le]
theorem date_uniq {n y m d y' m' d' : Int} (h : isDate n y m d) (g : isDate n y' m' d') : y = y' ∧ m = m' ∧ d = d' := by
 obtain ⟨h1, h2, h3, h4, _⟩ := date_bd h
 obtain ⟨g1, g2, g3, g4, _⟩ := date_bd g
 obtain ⟨a1, a2, a3, a4⟩ := valid_iff.1 h.1
 obtain ⟨b1, b2, b3, b4⟩ := valid_iff.1 g.1
 have e : y = y' := by
  rcases Int.lt_trichotomy y y' with c | c | c
  ·have := fst_mono' (a := y + 1) (b := y') (by omega) (by omega)
   omega
  ·exact c
  ·have := fst_mono' (a := y' + 1) (b := y) (by omega) (by omega)
   omega
 subst e
 have hh := h.2
 have hg := g.2
 have c1 := cum_succ y m h3 h4
 have c2 := cum_succ y m' g3 g4
 have em : m = m' := by
  rcases Int.lt_trichotomy m m' with c | c | c
  ·have := cum_mono y (a := m + 1) (b := m') (by omega) (by omega) (by omega)
   omega
  ·exact c
  ·have := cum_mono y (a := m' + 1) (b := m) (by omega) (by omega) (by omega)
   omega
 subst em
 exact ⟨rfl, rfl, by omega⟩
theorem tdm (t k : Int) (hk : 0 < k) : Int.tdiv t k = (if t % k ≠ 0 ∧ t < 0 then t / k + 1 else t / k) ∧ Int.tmod t k = (if t % k ≠ 0 ∧ t < 0 then t % k - k else t % k) := by
 by_cases h : 0 ≤ t
 ·rw [if_neg (by omega), if_neg (by omega)]
  exact ⟨tdn h k, tmn h k⟩
 ·have e : t = -(-t) := by omega
  have h1 : Int.tdiv t k = -((-t) / k) := by rw [e, Int.neg_tdiv, tdn (by omega), Int.neg_neg]
  have h2 : Int.tmod t k = -((-t) % k) := by rw [e, Int.neg_tmod, tmn (by omega), Int.neg_neg]
  have h3 := Int.emod_add_mul_ediv t k
  have h4 := Int.emod_add_mul_ediv (-t) k
  have b1 := Int.emod_nonneg t (show k ≠ 0 by omega)
  have b2 := Int.emod_lt_of_pos t hk
  have b3 := Int.emod_nonneg (-t) (show k ≠ 0 by omega)
  have b4 := Int.emod_lt_of_pos (-t) hk
  rw [h1, h2]
  by_cases hz : t % k = 0
  ·rw [if_neg (by omega), if_neg (by omega)]
   have hz2 : (-t) % k = 0 := by
    have : k ∣ t := Int.dvd_of_emod_eq_zero hz
    exact Int.emod_eq_zero_of_dvd (Int.dvd_neg.2 this)
   have : (-t) / k = -(t / k) := Int.neg_ediv_of_dvd (Int.dvd_of_emod_eq_zero hz)
   exact ⟨by omega, by omega⟩
  ·rw [if_pos ⟨hz, by omega⟩, if_pos ⟨hz, by omega⟩]
   have hq : (-t) % k = k - t % k := by
    have e1 : -t = (k - t % k) + k * (-(t / k) - 1) := by
     rw [Int.mul_sub, Int.mul_neg]
     omega
    rw [e1, Int.add_mul_emod_self_left, Int.emod_eq_of_lt (by omega) (by omega)]
   have hd : (-t) / k = -(t / k) - 1 := by
    have : k * ((-t) / k) = k * (-(t / k) - 1) := by
     rw [Int.mul_sub, Int.mul_neg]
     omega
    exact Int.eq_of_mul_eq_mul_left (by omega) this
   exact ⟨by omega, by omega⟩
theorem mday_spec (t : Int) (h1 : -9000000000000000000 ≤ t) (h2 : t ≤ 9000000000000000000) : stamp_Day.f t = some (t / 86400, t % 86400, ()) ∧ vokref1_Day.f t = some (t / 86400, t % 86400, ()) := by
 obtain ⟨e1, e2⟩ := tdm t 86400 (by omega)
 rw [stamp_Day.f_eq, vokref1_Day.f_eq, vokref1_down.f_eq, e1, e2]
 by_cases c : t % 86400 ≠ 0 ∧ t < 0
 ·rw [if_pos c, if_pos c]
  have q1 : t / 86400 + 1 - 1 = t / 86400 := by omega
  have q2 : t % 86400 - 86400 + 86400 = t % 86400 := by omega
  simp (disch := omega) only [ss, cond_true, cond_false, Option.bind_some, q1, q2]
  exact ⟨trivial, trivial⟩
 ·rw [if_neg c, if_neg c]
  simp (disch := omega) only [ss, cond_true, cond_false, Option.bind_some]
  exact ⟨trivial, trivial⟩
theorem may_mo (t : Int) : stamp_May.f t = some (decide (-62135596800 ≤ t ∧ t ≤ 253402300799), ()) ∧ vokref1_May.f t = some (decide (-62135596800 ≤ t ∧ t ≤ 253402300799), ()) := by
 rw [stamp_May.f_eq, vokref1_May.f_eq]
 by_cases c : -62135596800 ≤ t
 ·by_cases c2 : t ≤ 253402300799
  ·simp (disch := omega) only [ss, cond_true, cond_false, Option.bind_some, ge_iff_le]
   exact ⟨trivial, trivial⟩
  ·simp (disch := omega) only [ss, cond_true, cond_false, Option.bind_some, ge_iff_le]
   exact ⟨trivial, trivial⟩
 ·simp (disch := omega) only [ss, cond_true, cond_false, Option.bind_some, ge_iff_le]
  exact ⟨trivial, trivial⟩
end Go.GV.YtaeejbmbkejjiaaGreatDoor
namespace Go.GV.YtaeejbmbkejjiaaGreatDoor
open Go.Proofs
def wk (n : Int) : Int := (n + 3) % 7
theorem wk_bd (n : Int) : 0 ≤ wk n ∧ wk n ≤ 6 := by unfold wk; omega
theorem weekday_spec (n : Int) : civil_Weekday.f n = some (wk n, ()) := by
 obtain ⟨_, e⟩ := tdm n 7 (by omega)
 rw [civil_Weekday.f_eq, e]
 unfold wk
 by_cases c : n % 7 ≠ 0 ∧ n < 0
 ·rw [if_pos c]
  simp (disch := omega) only [ss, cond_true, cond_false, Option.bind_some, tmn (show (0 : Int) ≤ n % 7 - 7 + 7 + 3 by omega)]
  congr 2
  omega
 ·rw [if_neg c]
  simp (disch := omega) only [ss, cond_true, cond_false, Option.bind_some, tmn (show (0 : Int) ≤ n % 7 + 7 + 3 by omega)]
  congr 2
  omega
theorem numJ (y : Int) (hy : 0 ≤ y) (hy2 : y ≤ 10001) : civil_number.f y 1 1 = some (fst_ y, ()) := by
 rw [civil_number.f_eq]
 simp (disch := omega) only [ss, cond_true, cond_false, Option.bind_some, tdn (show 0 ≤ y - 1 + 400 by omega), tdn (show (0 : Int) ≤ 153 * (1 + 12 - 3) + 2 by omega)]
 congr 2
 unfold fst_
 omega
def w1 (y w : Int) : Int := fst_ y + 3 - (fst_ y + 6 - w) % 7
theorem fst_bd0 (y : Int) (hy : 0 ≤ y) (hy2 : y ≤ 10001) : -1000000 ≤ fst_ y ∧ fst_ y ≤ 4000000 := by
 unfold fst_
 omega
theorem civ_first (y w : Int) (hy : 0 ≤ y) (hy2 : y ≤ 10001) (hw : 0 ≤ w) (hw2 : w ≤ 6) : civil_first.f y w = some (w1 y w, ()) := by
 have hb := fst_bd0 y hy hy2
 have hk := wk_bd (fst_ y)
 rw [civil_first.f_eq, numJ y hy hy2]
 simp only [Option.bind_some]
 rw [weekday_spec]
 simp (disch := omega) only [ss, cond_true, cond_false, Option.bind_some, tmn (show (0 : Int) ≤ wk (fst_ y) - w + 7 by omega)]
 unfold w1
 by_cases c : (wk (fst_ y) - w + 7) % 7 ≤ 3
 ·simp (disch := omega) only [ss, cond_true, cond_false, Option.bind_some]
  congr 2
  unfold wk at *
  omega
 ·simp (disch := omega) only [ss, cond_true, cond_false, Option.bind_some]
  congr 2
  unfold wk at *
  omega
theorem fst_step0 (y : Int) (hy : 0 ≤ y) : 365 ≤ fst_ (y + 1) - fst_ y ∧ fst_ (y + 1) - fst_ y ≤ 366 := by
 by_cases c : 1 ≤ y
 ·have := fst_step y c
  have := cum13 y
  omega
 ·have : y = 0 := by omega
  subst this
  decide
theorem w1_step (y w : Int) (hy : 0 ≤ y) : w1 (y + 1) w = w1 y w + 364 ∨ w1 (y + 1) w = w1 y w + 371 := by
 have := fst_step0 y hy
 unfold w1
 omega
theorem w1_near (y w : Int) : fst_ y - 3 ≤ w1 y w ∧ w1 y w ≤ fst_ y + 3 ∧ (w1 y w + 3 - w) % 7 = 0 := by
 unfold w1
 omega
def isWeek (n w y k : Int) : Prop := w1 y w ≤ n ∧ n < w1 (y + 1) w ∧ k = (n - w1 y w) / 7 + 1
theorem w1_mono {a b w : Int} (h0 : 0 ≤ a) (h : a ≤ b) : w1 a w ≤ w1 b w := by
 obtain ⟨k, hk⟩ := Int.eq_ofNat_of_zero_le (show 0 ≤ b - a by omega)
 have e : b = a + (k : Int) := by omega
 subst e
 clear hk h
 induction k with
 | zero => simp
 | succ k ih =>
  have := w1_step (a + (k : Int)) w (by omega)
  rw [show a + ((k + 1 : Nat) : Int) = a + (k : Int) + 1 by omega]
  omega
theorem week_uniq {n w y k y' k' : Int} (h0 : 0 ≤ y) (h1 : 0 ≤ y') (h : isWeek n w y k) (g : isWeek n w y' k') : y = y' ∧ k = k' := by
 obtain ⟨a1, a2, a3⟩ := h
 obtain ⟨b1, b2, b3⟩ := g
 have e : y = y' := by
  rcases Int.lt_trichotomy y y' with c | c | c
  ·have := w1_mono (a := y + 1) (b := y') (w := w) (by omega) (by omega)
   omega
  ·exact c
  ·have := w1_mono (a := y' + 1) (b := y) (w := w) (by omega) (by omega)
   omega
 subst e
 exact ⟨rfl, by omega⟩
theorem wday_spec (w : Int) : civil_wday.f w = some (decide (0 ≤ w ∧ w ≤ 6), ()) := by
 rw [civil_wday.f_eq]
 by_cases c : 0 ≤ w
 ·by_cases c2 : w ≤ 6
  ·simp (disch := omega) only [ss, cond_true, cond_false, Option.bind_some, ge_iff_le]
  ·simp (disch := omega) only [ss, cond_true, cond_false, Option.bind_some, ge_iff_le]
 ·simp (disch := omega) only [ss, cond_true, cond_false, Option.bind_some, ge_iff_le]
theorem week_l2 (n w Y : Int) (hY : 0 ≤ Y) (hY2 : Y ≤ 10001) (hw : 0 ≤ w) (hw2 : w ≤ 6) (h1 : w1 Y w ≤ n) (h2 : n ≤ 4000000) (e : Int) : civil_Week.l2 n w Y = some (Y, (n - w1 Y w) / 7 + 1, 0, ()) ∧ True := by
 have c := civ_first Y w hY hY2 hw hw2
 have f := fst_bd0 Y hY hY2
 have g := w1_near Y w
 rw [civil_Week.l2_eq, c]
 refine ⟨?_, trivial⟩
 simp (disch := omega) only [ss, cond_true, cond_false, Option.bind_some, tdn (show (0 : Int) ≤ n - w1 Y w by omega)]
theorem week_l1 (n w Y : Int) (hY : 1 ≤ Y) (hY2 : Y ≤ 9999) (hw : 0 ≤ w) (hw2 : w ≤ 6) (q1 : fst_ Y ≤ n) (q2 : n < fst_ (Y + 1)) : ∃ y k, isWeek n w y k ∧ 0 ≤ y ∧ y ≤ 10000 ∧ 1 ≤ k ∧ k ≤ 53 ∧ civil_Week.l1 n w Y false = some (y, k, 0, ()) ∧ True := by
 have f2 := fst_bd0 (Y + 1) (by omega) (by omega)
 have n0 := w1_near (Y - 1) w
 have n1 := w1_near Y w
 have n2 := w1_near (Y + 1) w
 have n3 := w1_near (Y + 2) w
 have s0 := w1_step (Y - 1) w (by omega)
 have s1 := w1_step Y w (by omega)
 have s2 := w1_step (Y + 1) w (by omega)
 have p0 := fst_step0 (Y - 1) (by omega)
 rw [show Y - 1 + 1 = Y by omega] at s0 p0
 rw [show Y + 1 + 1 = Y + 2 by omega] at s2
 have c1 := civ_first Y w (by omega) (by omega) hw hw2
 have c2 := civ_first (Y + 1) w (by omega) (by omega) hw hw2
 have wp : IntKind.i64.wrap (Y + 1) = Y + 1 := wr (by omega) (by omega)
 have wm : IntKind.i64.wrap (Y - 1) = Y - 1 := wr (by omega) (by omega)
 rw [civil_Week.l1_eq, cond_false, wp, wm, c1, c2]
 simp only [Option.bind_some]
 by_cases cl : n < w1 Y w
 ·have hn : ¬ n ≥ w1 (Y + 1) w := by omega
  have h := week_l2 n w (Y - 1) (by omega) (by omega) hw hw2 (by omega) (by omega) 0
  refine ⟨Y - 1, (n - w1 (Y - 1) w) / 7 + 1, ⟨by omega, by rw [show Y - 1 + 1 = Y by omega]; exact cl, rfl⟩, by omega, by omega, by omega, by omega, ?_, ?_⟩
  ·rw [dp cl, cond_true]
   exact h.1
  ·trivial
 ·by_cases cu : n ≥ w1 (Y + 1) w
  ·have h := week_l2 n w (Y + 1) (by omega) (by omega) hw hw2 (by omega) (by omega) 0
   refine ⟨Y + 1, (n - w1 (Y + 1) w) / 7 + 1, ⟨by omega, by rw [show Y + 1 + 1 = Y + 2 by omega]; omega, rfl⟩, by omega, by omega, by omega, by omega, ?_, ?_⟩
   ·rw [dn cl, dp cu, cond_true, cond_false]
    exact h.1
   ·trivial
  ·have h := week_l2 n w Y (by omega) (by omega) hw hw2 (by omega) (by omega) 0
   refine ⟨Y, (n - w1 Y w) / 7 + 1, ⟨by omega, by omega, rfl⟩, by omega, by omega, by omega, by omega, ?_, ?_⟩
   ·rw [dn cl, dn cu, cond_false, cond_false]
    exact h.1
   ·trivial
theorem week_spec (n w : Int) (h1 : -719162 ≤ n) (h2 : n ≤ 2932896) (hw : 0 ≤ w) (hw2 : w ≤ 6) : ∃ y k, isWeek n w y k ∧ 0 ≤ y ∧ y ≤ 10000 ∧ 1 ≤ k ∧ k ≤ 53 ∧ civil_Week.f n w = some (y, k, 0, ()) ∧ True := by
 obtain ⟨Y, m, d, hd, e1, e2⟩ := date_spec n h1 h2
 obtain ⟨q1, q2, _⟩ := date_bd hd
 obtain ⟨v1, v2, _⟩ := valid_iff.1 hd.1
 obtain ⟨y, k, g1, g2, g3, g4, g5, g6, g7⟩ := week_l1 n w Y v1 v2 hw hw2 q1 q2
 refine ⟨y, k, g1, g2, g3, g4, g5, ?_, ?_⟩
 ·rw [civil_Week.f_eq, e1]
  simp only [Option.bind_some]
  rw [wday_spec, dp (show 0 ≤ w ∧ w ≤ 6 from ⟨hw, hw2⟩)]
  exact g6
 ·trivial
theorem civyear_spec (y : Int) : civil_year.f y = some (decide (1 ≤ y ∧ y ≤ 9999), ()) := by
 rw [civil_year.f_eq]
 by_cases c : 1 ≤ y
 ·by_cases c2 : y ≤ 9999
  ·simp (disch := omega) only [ss, cond_true, cond_false, Option.bind_some, ge_iff_le]
  ·simp (disch := omega) only [ss, cond_true, cond_false, Option.bind_some, ge_iff_le]
 ·simp (disch := omega) only [ss, cond_true, cond_false, Option.bind_some, ge_iff_le]
def wks (y w : Int) : Int := (w1 (y + 1) w - w1 y w) / 7
theorem wks_bd (y w : Int) (hy : 0 ≤ y) : (wks y w = 52 ∨ wks y w = 53) ∧ w1 (y + 1) w = w1 y w + 7 * wks y w := by
 have := w1_step y w hy
 unfold wks
 omega
theorem weeks_spec (y w : Int) : civil_Weeks.f y w = some (if (1 ≤ y ∧ y ≤ 9999) ∧ 0 ≤ w ∧ w ≤ 6 then (wks y w, 0, ()) else (0, 1, ())) := by
 rw [civil_Weeks.f_eq, civyear_spec]
 by_cases c : 1 ≤ y ∧ y ≤ 9999
 ·rw [dp c]
  simp only [Option.bind_some]
  rw [wday_spec]
  by_cases c2 : 0 ≤ w ∧ w ≤ 6
  ·rw [dp c2, if_pos ⟨c, c2⟩]
   have h1 := civ_first (y + 1) w (by omega) (by omega) c2.1 c2.2
   have h2 := civ_first y w (by omega) (by omega) c2.1 c2.2
   have f1 := w1_near (y + 1) w
   have f2 := w1_near y w
   have f3 := fst_bd0 y (by omega) (by omega)
   have f4 := fst_bd0 (y + 1) (by omega) (by omega)
   have s := w1_step y w (by omega)
   have wp : IntKind.i64.wrap (y + 1) = y + 1 := wr (by omega) (by omega)
   rw [wp, h1, h2]
   unfold wks
   simp (disch := omega) only [ss, cond_true, cond_false, Option.bind_some, tdn (show (0 : Int) ≤ w1 (y + 1) w - w1 y w by omega)]
  ·rw [dn c2, if_neg fun q => c2 q.2]
   simp (disch := omega) only [ss, cond_true, cond_false, Option.bind_some]
 ·rw [dn c, if_neg fun q => c q.1]
  simp (disch := omega) only [ss, cond_true, cond_false, Option.bind_some]
theorem yearday_spec (n y m d : Int) (h : isDate n y m d) (e : civil_Date.f n = some (y, m, d, 0, ())) : civil_YearDay.f n = some (y, n - fst_ y + 1, 0, ()) := by
 obtain ⟨q1, q2, q3, q4, q5, q6⟩ := date_bd h
 obtain ⟨v1, v2, _⟩ := valid_iff.1 h.1
 have f := fst_bd0 y (by omega) (by omega)
 rw [civil_YearDay.f_eq, e]
 simp (disch := omega) only [ss, cond_true, cond_false, Option.bind_some, numJ y (by omega) (by omega)]
end Go.GV.YtaeejbmbkejjiaaGreatDoor
namespace Go.GV.YtaeejbmbkejjiaaGreatDoor
open Go.Proofs
abbrev Dy := Int × Int × Unit
def dyLt (a b : Dy) : Prop := a.1 < b.1 ∨ a.1 = b.1 ∧ a.2.1 < b.2.1
def Tells (f : Option (Bool × Unit)) (p : Prop) : Prop := ∃ b, f = some (b, ()) ∧ (b = true ↔ p)
theorem Tells.iff {f : Option (Bool × Unit)} {p q : Prop} (h : Tells f p) (e : p ↔ q) : Tells f q := by
 obtain ⟨b, h1, h2⟩ := h
 exact ⟨b, h1, h2.trans e⟩
theorem Tells.eq {f g : Option (Bool × Unit)} {p : Prop} (h : Tells f p) (k : Tells g p) : f = g := by
 obtain ⟨b, h1, h2⟩ := h
 obtain ⟨c, k1, k2⟩ := k
 have : b = c := by
  cases b <;> cases c <;> simp at h2 k2 <;> first | rfl | exact absurd k2 h2 | exact absurd h2 k2
 rw [h1, k1, this]
def okI (l : List Int) (lo hi : Int) (z : Bool) (j : Nat) : Prop := lo ≤ l.getD j 0 ∧ l.getD j 0 ≤ hi ∧ (l.getD j 0 = 0 → z = true)
def adjI (l : List Int) (j : Nat) : Prop := 0 < j → l.getD (j - 1) 0 < l.getD j 0
theorem within_l1 (l : List Int) (lo hi : Int) (z : Bool) (hl : l.length ≤ 1000000) : ∀ (k i : Nat), l.length - i = k → i ≤ l.length →
  Tells (rule_within.l1 l lo hi z l l.length i) ((∀ j, i ≤ j → j < l.length → okI l lo hi z j ∧ adjI l j) ∧ l.length ≤ 60) := by
 intro k
 induction k with
 | zero =>
  intro i hk hil
  rw [rule_within.l1_eq]
  simp (disch := omega) only [ss, cond_true, cond_false, Option.bind_some]
  refine ⟨_, rfl, ?_⟩
  rw [decide_eq_true_eq]
  exact ⟨fun h => ⟨fun j h1 h2 => by omega, by omega⟩, fun h => by omega⟩
 | succ k ih =>
  intro i hk hil
  have hlt : i < l.length := by omega
  have step : okI l lo hi z i ∧ adjI l i → Tells (rule_within.l2 l lo hi z l l.length i false) ((∀ j, i ≤ j → j < l.length → okI l lo hi z j ∧ adjI l j) ∧ l.length ≤ 60) := fun h => by
   rw [rule_within.l2_eq]
   simp (disch := omega) only [ss, cond_true, cond_false, Option.bind_some]
   refine (ih (i + 1) (by omega) (by omega)).iff ⟨fun q => ⟨fun j h1 h2 => ?_, q.2⟩, fun q => ⟨fun j h1 h2 => q.1 j (by omega) h2, q.2⟩⟩
   by_cases e : j = i
   ·subst e; exact h
   ·exact q.1 j (by omega) h2
  have stop : ¬ (okI l lo hi z i ∧ adjI l i) → Tells (rule_within.l2 l lo hi z l l.length i true) ((∀ j, i ≤ j → j < l.length → okI l lo hi z j ∧ adjI l j) ∧ l.length ≤ 60) := fun h => by
   rw [rule_within.l2_eq, cond_true]
   exact ⟨false, rfl, by simp; intro q; exact absurd (q i (Nat.le_refl _) hlt) h⟩
  have last : okI l lo hi z i → Tells (bif decide ((i : Int) > 0) then (bif decide (0 ≤ (i : Int) - 1) then (rule_within.l2 l lo hi z l l.length i (decide (l.getD i 0 ≤ l.getD (i - 1) 0))) else none) else (rule_within.l2 l lo hi z l l.length i false)) ((∀ j, i ≤ j → j < l.length → okI l lo hi z j ∧ adjI l j) ∧ l.length ≤ 60) := fun h => by
   by_cases h0 : i = 0
   ·simp (disch := omega) only [ss, cond_true, cond_false, Option.bind_some]
    exact step ⟨h, fun q => by omega⟩
   ·simp (disch := omega) only [ss, cond_true, cond_false, Option.bind_some]
    by_cases c : l.getD i 0 ≤ l.getD (i - 1) 0
    ·rw [dp c]
     exact stop fun q => by have := q.2 (by omega); omega
    ·rw [dn c]
     exact step ⟨h, fun _ => by omega⟩
  rw [rule_within.l1_eq]
  simp (disch := omega) only [ss, cond_true, cond_false, Option.bind_some]
  by_cases c1 : l.getD i 0 < lo
  ·rw [dp c1, cond_true]
   exact stop fun q => by have := q.1.1; omega
  ·by_cases c2 : l.getD i 0 > hi
   ·rw [dn c1, dp c2, cond_false, cond_true]
    exact stop fun q => by have := q.1.2.1; omega
   ·rw [dn c1, dn c2, cond_false, cond_false]
    by_cases c3 : l.getD i 0 = 0
    ·rw [dp c3, cond_true]
     cases z with
     | false =>
      exact stop fun q => by have := q.1.2.2 c3; cases this
     | true => exact last ⟨by omega, by omega, fun _ => rfl⟩
    ·rw [dn c3, cond_false]
     exact last ⟨by omega, by omega, fun q => absurd q c3⟩
def wi (l : List Int) (lo hi : Int) (z : Bool) : Prop := (∀ j, j < l.length → okI l lo hi z j ∧ adjI l j) ∧ l.length ≤ 60
theorem within_spec (l : List Int) (lo hi : Int) (z : Bool) (hl : l.length ≤ 1000000) : Tells (rule_within.f l lo hi z) (wi l lo hi z) := by
 have := within_l1 l lo hi z hl _ 0 rfl (Nat.zero_le _)
 rw [Int.natCast_zero] at this
 rw [rule_within.f_eq]
 exact this.iff ⟨fun h => ⟨fun j h2 => h.1 j (Nat.zero_le _) h2, h.2⟩, fun h => ⟨fun j _ h2 => h.1 j h2, h.2⟩⟩
theorem vrises_l1 (l : List Int) (hl : l.length ≤ 1000000) : ∀ (k i : Nat), l.length - i = k → 0 < i → Tells (vokref_Rises.l1 l i) (∀ j, i ≤ j → j < l.length → adjI l j) := by
 intro k
 induction k with
 | zero =>
  intro i hk hil
  rw [vokref_Rises.l1_eq]
  by_cases hlt : i < l.length
  ·omega
  ·simp (disch := omega) only [ss, cond_true, cond_false, Option.bind_some]
   exact ⟨true, rfl, by simp; intro j h1 h2; omega⟩
 | succ k ih =>
  intro i hk hil
  have hlt : i < l.length := by omega
  have w1 : IntKind.i64.wrap ((i : Int) - 1) = ((i - 1 : Nat) : Int) := wr_sub1 (by omega) (by omega)
  rw [vokref_Rises.l1_eq]
  simp (disch := omega) only [ss, cond_true, cond_false, Option.bind_some, w1]
  by_cases c : l.getD i 0 ≤ l.getD (i - 1) 0
  ·rw [dp c, cond_true]
   exact ⟨false, rfl, by simp; exact ⟨i, Nat.le_refl _, hlt, fun q => by have := q hil; omega⟩⟩
  ·rw [dn c, cond_false]
   refine (ih (i + 1) (by omega) (by omega)).iff ⟨fun q j h1 h2 => ?_, fun q j h1 h2 => q j (by omega) h2⟩
   by_cases e : j = i
   ·subst e; intro _; omega
   ·exact q j (by omega) h2
theorem vrises_spec (l : List Int) (hl : l.length ≤ 1000000) : Tells (vokref_Rises.f l) (∀ j, j < l.length → adjI l j) := by
 have := vrises_l1 l hl _ 1 rfl (by omega)
 rw [vokref_Rises.f_eq]
 exact this.iff ⟨fun h j h2 h0 => h j (by omega) h2 h0, fun h j _ h2 => h j h2⟩
theorem vwithin_l1 (l : List Int) (lo hi : Int) (z : Bool) (hl : l.length ≤ 1000000) : ∀ (k i : Nat), l.length - i = k → i ≤ l.length →
  Tells (vokref4_within.l1 l lo hi z i) ((∀ j, i ≤ j → j < l.length → okI l lo hi z j) ∧ (∀ j, j < l.length → adjI l j) ∧ l.length ≤ 60) := by
 intro k
 induction k with
 | zero =>
  intro i hk hil
  rw [vokref4_within.l1_eq]
  simp (disch := omega) only [ss, cond_true, cond_false, Option.bind_some]
  by_cases c : (l.length : Int) ≤ 60
  ·obtain ⟨b, h1, h2⟩ := vrises_spec l hl
   simp (disch := omega) only [ss, cond_true, cond_false, Option.bind_some, h1]
   exact ⟨b, rfl, h2.trans ⟨fun q => ⟨fun j h3 h4 => by omega, q, by omega⟩, fun q => q.2.1⟩⟩
  ·simp (disch := omega) only [ss, cond_true, cond_false, Option.bind_some]
   exact ⟨false, rfl, by simp; intro _ _; omega⟩
 | succ k ih =>
  intro i hk hil
  have hlt : i < l.length := by omega
  have step : okI l lo hi z i → Tells (vokref4_within.l2 l lo hi z i false) ((∀ j, i ≤ j → j < l.length → okI l lo hi z j) ∧ (∀ j, j < l.length → adjI l j) ∧ l.length ≤ 60) := fun h => by
   rw [vokref4_within.l2_eq]
   simp (disch := omega) only [ss, cond_true, cond_false, Option.bind_some]
   refine (ih (i + 1) (by omega) (by omega)).iff ⟨fun q => ⟨fun j h1 h2 => ?_, q.2⟩, fun q => ⟨fun j h1 h2 => q.1 j (by omega) h2, q.2⟩⟩
   by_cases e : j = i
   ·subst e; exact h
   ·exact q.1 j (by omega) h2
  have stop : ¬ okI l lo hi z i → Tells (vokref4_within.l2 l lo hi z i true) ((∀ j, i ≤ j → j < l.length → okI l lo hi z j) ∧ (∀ j, j < l.length → adjI l j) ∧ l.length ≤ 60) := fun h => by
   rw [vokref4_within.l2_eq, cond_true]
   exact ⟨false, rfl, by simp; intro q; exact absurd (q i (Nat.le_refl _) hlt) h⟩
  rw [vokref4_within.l1_eq]
  simp (disch := omega) only [ss, cond_true, cond_false, Option.bind_some]
  by_cases c1 : l.getD i 0 < lo
  ·rw [dp c1, cond_true]
   exact stop fun q => by have := q.1; omega
  ·by_cases c2 : l.getD i 0 > hi
   ·rw [dn c1, dp c2, cond_false, cond_true]
    exact stop fun q => by have := q.2.1; omega
   ·rw [dn c1, dn c2, cond_false, cond_false]
    by_cases c3 : l.getD i 0 = 0
    ·rw [dp c3, cond_true]
     cases z with
     | false => exact stop fun q => by have := q.2.2 c3; cases this
     | true => exact step ⟨by omega, by omega, fun _ => rfl⟩
    ·rw [dn c3, cond_false]
     exact step ⟨by omega, by omega, fun q => absurd q c3⟩
theorem vwithin_spec (l : List Int) (lo hi : Int) (z : Bool) (hl : l.length ≤ 1000000) : Tells (vokref4_within.f l lo hi z) (wi l lo hi z) := by
 have := vwithin_l1 l lo hi z hl _ 0 rfl (Nat.zero_le _)
 rw [Int.natCast_zero] at this
 rw [vokref4_within.f_eq]
 exact this.iff ⟨fun h => ⟨fun j h2 => ⟨h.1 j (Nat.zero_le _) h2, h.2.1 j h2⟩, h.2.2⟩, fun h => ⟨fun j _ h2 => (h.1 j h2).1, fun j h2 => (h.1 j h2).2, h.2⟩⟩
def gD (l : List Dy) (j : Nat) : Dy := l.getD j ((0, 0, ()) : Int × Int × Unit)
def okD (l : List Dy) (j : Nat) : Prop := -53 ≤ (gD l j).1 ∧ (gD l j).1 ≤ 53 ∧ 0 ≤ (gD l j).2.1 ∧ (gD l j).2.1 ≤ 6 ∧ (0 < j → dyLt (gD l (j - 1)) (gD l j))
def dwi (l : List Dy) : Prop := (∀ j, j < l.length → okD l j) ∧ l.length ≤ 60
theorem vdl_l1 (l : List Dy) (hl : l.length ≤ 1000000) : ∀ (k i : Nat), l.length - i = k → i ≤ l.length → Tells (vokref4_dayList.l1 l i) ((∀ j, i ≤ j → j < l.length → okD l j) ∧ l.length ≤ 60) := by
 intro k
 induction k with
 | zero =>
  intro i hk hil
  rw [vokref4_dayList.l1_eq]
  simp (disch := omega) only [ss, cond_true, cond_false, Option.bind_some]
  refine ⟨_, rfl, ?_⟩
  rw [decide_eq_true_eq]
  exact ⟨fun h => ⟨fun j h1 h2 => by omega, by omega⟩, fun h => by omega⟩
 | succ k ih =>
  intro i hk hil
  have hlt : i < l.length := by omega
  have step : okD l i → Tells (vokref4_dayList.l2 l i false) ((∀ j, i ≤ j → j < l.length → okD l j) ∧ l.length ≤ 60) := fun h => by
   rw [vokref4_dayList.l2_eq]
   simp (disch := omega) only [ss, cond_true, cond_false, Option.bind_some]
   refine (ih (i + 1) (by omega) (by omega)).iff ⟨fun q => ⟨fun j h1 h2 => ?_, q.2⟩, fun q => ⟨fun j h1 h2 => q.1 j (by omega) h2, q.2⟩⟩
   by_cases e : j = i
   ·subst e; exact h
   ·exact q.1 j (by omega) h2
  have stop : ¬ okD l i → Tells (vokref4_dayList.l2 l i true) ((∀ j, i ≤ j → j < l.length → okD l j) ∧ l.length ≤ 60) := fun h => by
   rw [vokref4_dayList.l2_eq, cond_true]
   exact ⟨false, rfl, by simp; intro q; exact absurd (q i (Nat.le_refl _) hlt) h⟩
  have hg : l.getD i ((0, 0, ()) : Int × Int × Unit) = gD l i := rfl
  have hg1 : l.getD (i - 1) ((0, 0, ()) : Int × Int × Unit) = gD l (i - 1) := rfl
  rw [vokref4_dayList.l1_eq]
  simp (disch := omega) only [ss, cond_true, cond_false, Option.bind_some, hg]
  by_cases c1 : (gD l i).1 < -53
  ·rw [dp c1, cond_true]
   exact stop fun q => by have := q.1; omega
  ·by_cases c2 : (gD l i).1 > 53
   ·rw [dn c1, dp c2, cond_false, cond_true]
    exact stop fun q => by have := q.2.1; omega
   ·by_cases c3 : (gD l i).2.1 < 0
    ·rw [dn c1, dn c2, dp c3, cond_false, cond_false, cond_true]
     exact stop fun q => by have := q.2.2.1; omega
    ·by_cases c4 : (gD l i).2.1 > 6
     ·rw [dn c1, dn c2, dn c3, dp c4, cond_false, cond_false, cond_false, cond_true]
      exact stop fun q => by have := q.2.2.2.1; omega
     ·rw [dn c1, dn c2, dn c3, dn c4, cond_false, cond_false, cond_false, cond_false]
      by_cases h0 : i = 0
      ·simp (disch := omega) only [ss, cond_true, cond_false, Option.bind_some]
       exact step ⟨by omega, by omega, by omega, by omega, fun q => by omega⟩
      ·have w1 : IntKind.i64.wrap ((i : Int) - 1) = ((i - 1 : Nat) : Int) := wr_sub1 (by omega) (by omega)
       simp (disch := omega) only [ss, cond_true, cond_false, Option.bind_some, w1, hg1]
       by_cases c5 : (gD l i).1 < (gD l (i - 1)).1
       ·rw [dp c5, cond_true]
        exact stop fun q => by have := q.2.2.2.2 (by omega); unfold dyLt at this; omega
       ·by_cases c6 : (gD l i).1 = (gD l (i - 1)).1
        ·rw [dn c5, dp c6, cond_false, cond_true]
         by_cases c7 : (gD l i).2.1 ≤ (gD l (i - 1)).2.1
         ·rw [dp c7]
          exact stop fun q => by have := q.2.2.2.2 (by omega); unfold dyLt at this; omega
         ·rw [dn c7]
          exact step ⟨by omega, by omega, by omega, by omega, fun _ => by unfold dyLt; omega⟩
        ·rw [dn c5, dn c6, cond_false, cond_false]
         exact step ⟨by omega, by omega, by omega, by omega, fun _ => by unfold dyLt; omega⟩
theorem vdl_spec (l : List Dy) (hl : l.length ≤ 1000000) : Tells (vokref4_dayList.f l) (dwi l) := by
 have := vdl_l1 l hl _ 0 rfl (Nat.zero_le _)
 rw [Int.natCast_zero] at this
 rw [vokref4_dayList.f_eq]
 exact this.iff ⟨fun h => ⟨fun j h2 => h.1 j (Nat.zero_le _) h2, h.2⟩, fun h => ⟨fun j _ h2 => h.1 j h2, h.2⟩⟩
theorem vnumb_spec (l : List Dy) (hl : l.length ≤ 1000000) : Tells (vokref4_numbered.f l) (∃ j, j < l.length ∧ (gD l j).1 ≠ 0) := by
 have key : ∀ (k i : Nat), l.length - i = k → i ≤ l.length → Tells (vokref4_numbered.l1 l i) (∃ j, i ≤ j ∧ j < l.length ∧ (gD l j).1 ≠ 0) := by
  intro k
  induction k with
  | zero =>
   intro i hk hil
   rw [vokref4_numbered.l1_eq]
   simp (disch := omega) only [ss, cond_true, cond_false, Option.bind_some]
   exact ⟨false, rfl, by simp; intro j h1 h2; omega⟩
  | succ k ih =>
   intro i hk hil
   have hlt : i < l.length := by omega
   have hg : l.getD i ((0, 0, ()) : Int × Int × Unit) = gD l i := rfl
   rw [vokref4_numbered.l1_eq]
   simp (disch := omega) only [ss, cond_true, cond_false, Option.bind_some, hg]
   by_cases c : (gD l i).1 = 0
   ·rw [dp c]
    simp (disch := omega) only [ss, cond_true, cond_false, Option.bind_some]
    refine (ih (i + 1) (by omega) (by omega)).iff ⟨fun ⟨j, h1, h2, h3⟩ => ⟨j, by omega, h2, h3⟩, fun ⟨j, h1, h2, h3⟩ => ⟨j, ?_, h2, h3⟩⟩
    by_cases e : j = i
    ·subst e; exact absurd c h3
    ·omega
   ·rw [dn c]
    simp (disch := omega) only [ss, cond_true, cond_false, Option.bind_some]
    exact ⟨true, rfl, by simp; exact ⟨i, Nat.le_refl _, hlt, c⟩⟩
 have := key _ 0 rfl (Nat.zero_le _)
 rw [Int.natCast_zero] at this
 rw [vokref4_numbered.f_eq]
 exact this.iff ⟨fun ⟨j, _, h⟩ => ⟨j, h⟩, fun ⟨j, h⟩ => ⟨j, Nat.zero_le _, h⟩⟩
end Go.GV.YtaeejbmbkejjiaaGreatDoor
namespace Go.GV.YtaeejbmbkejjiaaGreatDoor
open Go.Proofs
abbrev Rl := Int × Int × Int × Int × Int × Bool × List Int × List Int × List Int × List Int × List Dy × List Int × List Int × List Int × List Int × Unit
def Gate (f : Option (Bool × Unit)) (p : Prop) (K : Option (Bool × Unit)) : Prop := (p → f = K) ∧ (¬ p → f = some (false, ()))
theorem Gate.iff {f K : Option (Bool × Unit)} {p q : Prop} (h : Gate f p K) (e : p ↔ q) : Gate f q K := ⟨fun x => h.1 (e.2 x), fun x => h.2 fun y => x (e.1 y)⟩
theorem Gate.eq {f g K : Option (Bool × Unit)} {p : Prop} (h : Gate f p K) (k : Gate g p K) : f = g := by
 by_cases hp : p
 ·rw [h.1 hp, k.1 hp]
 ·rw [h.2 hp, k.2 hp]
theorem gate_and {f g K : Option (Bool × Unit)} {p q : Prop} (h : Tells f p) (k : Gate g q K) : Gate (f.bind fun t => bif !t.1 then some (false, ()) else g) (p ∧ q) K := by
 obtain ⟨b, h1, h2⟩ := h
 rw [h1]
 simp only [Option.bind_some]
 cases b with
 | true => exact ⟨fun x => k.1 x.2, fun x => k.2 fun y => x ⟨h2.1 rfl, y⟩⟩
 | false => exact ⟨fun x => absurd (h2.2 x.1) (by simp), fun _ => rfl⟩
theorem tells_and {f g : Option (Bool × Unit)} {p q : Prop} (h : Tells f p) (k : Tells g q) : Tells (f.bind fun t => bif t.1 then g else some (false, ())) (p ∧ q) := by
 obtain ⟨b, h1, h2⟩ := h
 obtain ⟨c, k1, k2⟩ := k
 rw [h1]
 simp only [Option.bind_some]
 cases b with
 | true => rw [cond_true]; exact ⟨c, k1, ⟨fun x => ⟨h2.1 rfl, k2.1 x⟩, fun x => k2.2 x.2⟩⟩
 | false => exact ⟨false, rfl, ⟨fun x => by simp at x, fun x => absurd (h2.2 x.1) (by simp)⟩⟩
theorem tells_last {f : Option (Bool × Unit)} {p : Prop} (h : Tells f p) : Tells (f.bind fun t => some (t.1, ())) p := by
 obtain ⟨b, h1, h2⟩ := h
 exact ⟨b, by rw [h1]; rfl, h2⟩
def numd (f : Int) (we : List Int) (l : List Dy) (j : Nat) : Prop := (gD l j).1 ≠ 0 → f = 2 ∨ f = 1 ∧ we.length = 0
section
variable (f iv ct un wk : Int) (en : Bool) (mo we yd md : List Int) (dy : List Dy) (ho mi se po : List Int)
theorem mdays_l1 (hl : dy.length ≤ 1000000) (hw : we.length ≤ 1000000) : ∀ (k i : Nat), dy.length - i = k → i ≤ dy.length → (∀ j, j < i → okD dy j) →
  Tells (rule_mayDays.l1 dy dy.length i (f, iv, ct, un, wk, en, mo, we, yd, md, dy, ho, mi, se, po, ())) ((∀ j, i ≤ j → j < dy.length → okD dy j ∧ numd f we dy j) ∧ dy.length ≤ 60) := by
 intro k
 induction k with
 | zero =>
  intro i hk hil hpre
  rw [rule_mayDays.l1_eq]
  simp (disch := omega) only [ss, cond_true, cond_false, Option.bind_some]
  refine ⟨_, rfl, ?_⟩
  rw [decide_eq_true_eq]
  exact ⟨fun h => ⟨fun j h1 h2 => by omega, by omega⟩, fun h => by omega⟩
 | succ k ih =>
  intro i hk hil hpre
  have hlt : i < dy.length := by omega
  have hg : dy.getD i ((0, 0, ()) : Int × Int × Unit) = gD dy i := rfl
  have hg1 : dy.getD (i - 1) ((0, 0, ()) : Int × Int × Unit) = gD dy (i - 1) := rfl
  have stop : ¬ (okD dy i ∧ numd f we dy i) → Tells (some (false, ())) ((∀ j, i ≤ j → j < dy.length → okD dy j ∧ numd f we dy j) ∧ dy.length ≤ 60) := fun h =>
   ⟨false, rfl, by simp; intro q; exact absurd (q i (Nat.le_refl _) hlt) h⟩
  have go : okD dy i → numd f we dy i → Tells (rule_mayDays.l3 dy dy.length i false (f, iv, ct, un, wk, en, mo, we, yd, md, dy, ho, mi, se, po, ())) ((∀ j, i ≤ j → j < dy.length → okD dy j ∧ numd f we dy j) ∧ dy.length ≤ 60) := fun h h' => by
   rw [rule_mayDays.l3_eq]
   simp (disch := omega) only [ss, cond_true, cond_false, Option.bind_some]
   refine (ih (i + 1) (by omega) (by omega) fun j hj => ?_).iff ⟨fun q => ⟨fun j h1 h2 => ?_, q.2⟩, fun q => ⟨fun j h1 h2 => q.1 j (by omega) h2, q.2⟩⟩
   ·by_cases e : j = i
    ·subst e; exact h
    ·exact hpre j (by omega)
   ·by_cases e : j = i
    ·subst e; exact ⟨h, h'⟩
    ·exact q.1 j (by omega) h2
  have l3t : rule_mayDays.l3 dy dy.length i true (f, iv, ct, un, wk, en, mo, we, yd, md, dy, ho, mi, se, po, ()) = some (false, ()) := by rw [rule_mayDays.l3_eq, cond_true]
  have bad : ∀ a b, ¬ okD dy i → Tells (rule_mayDays.l2 dy dy.length i true (f, iv, ct, un, wk, en, mo, we, yd, md, dy, ho, mi, se, po, ()) (a, b, ())) ((∀ j, i ≤ j → j < dy.length → okD dy j ∧ numd f we dy j) ∧ dy.length ≤ 60) := fun a b h => by
   rw [rule_mayDays.l2_eq, cond_true]
   exact stop fun q => h q.1
  have good : okD dy i → Tells (rule_mayDays.l2 dy dy.length i false (f, iv, ct, un, wk, en, mo, we, yd, md, dy, ho, mi, se, po, ()) (gD dy i)) ((∀ j, i ≤ j → j < dy.length → okD dy j ∧ numd f we dy j) ∧ dy.length ≤ 60) := fun h => by
   rw [rule_mayDays.l2_eq, cond_false]
   by_cases c1 : (gD dy i).1 = 0
   ·simp (disch := omega) only [ss, cond_true, cond_false, Option.bind_some]
    exact go h fun q => absurd c1 q
   ·by_cases c2 : f = 2
    ·simp (disch := omega) only [ss, cond_true, cond_false, Option.bind_some]
     exact go h fun _ => .inl c2
    ·by_cases c3 : f = 1
     ·by_cases c4 : (we.length : Int) > 0
      ·simp (disch := omega) only [ss, cond_true, cond_false, Option.bind_some, l3t]
       exact stop fun q => by rcases q.2 c1 with q | q <;> omega
      ·simp (disch := omega) only [ss, cond_true, cond_false, Option.bind_some]
       exact go h fun _ => .inr ⟨c3, by omega⟩
     ·simp (disch := omega) only [ss, cond_true, cond_false, Option.bind_some, l3t]
      exact stop fun q => by rcases q.2 c1 with q | q <;> omega
  rw [rule_mayDays.l1_eq]
  simp (disch := omega) only [ss, cond_true, cond_false, Option.bind_some, hg]
  by_cases c1 : (gD dy i).1 < -53
  ·rw [dp c1, cond_true]
   exact bad _ _ fun q => by have := q.1; omega
  ·by_cases c2 : (gD dy i).1 > 53
   ·rw [dn c1, dp c2, cond_false, cond_true]
    exact bad _ _ fun q => by have := q.2.1; omega
   ·by_cases c3 : (gD dy i).2.1 < 0
    ·rw [dn c1, dn c2, dp c3, cond_false, cond_false, cond_true]
     exact bad _ _ fun q => by have := q.2.2.1; omega
    ·by_cases c4 : (gD dy i).2.1 > 6
     ·rw [dn c1, dn c2, dn c3, dp c4, cond_false, cond_false, cond_false, cond_true]
      exact bad _ _ fun q => by have := q.2.2.2.1; omega
     ·rw [dn c1, dn c2, dn c3, dn c4, cond_false, cond_false, cond_false, cond_false]
      by_cases h0 : i = 0
      ·simp (disch := omega) only [ss, cond_true, cond_false, Option.bind_some]
       exact good ⟨by omega, by omega, by omega, by omega, fun q => by omega⟩
      ·have hp := hpre (i - 1) (by omega)
       have b1 := hp.1
       have b2 := hp.2.1
       have b3 := hp.2.2.1
       have b4 := hp.2.2.2.1
       simp (disch := omega) only [ss, cond_true, cond_false, Option.bind_some, hg1, rule_order.f_eq]
       by_cases c6 : (gD dy (i - 1)).1 = (gD dy i).1
       ·simp (disch := omega) only [ss, cond_true, cond_false, Option.bind_some]
        by_cases c7 : (gD dy (i - 1)).2.1 - (gD dy i).2.1 ≥ 0
        ·rw [dp c7]
         exact bad _ _ fun q => by have := q.2.2.2.2 (by omega); unfold dyLt at this; omega
        ·rw [dn c7]
         exact good ⟨by omega, by omega, by omega, by omega, fun _ => by unfold dyLt; omega⟩
       ·simp (disch := omega) only [ss, cond_true, cond_false, Option.bind_some]
        by_cases c7 : (gD dy (i - 1)).1 - (gD dy i).1 ≥ 0
        ·rw [dp c7]
         exact bad _ _ fun q => by have := q.2.2.2.2 (by omega); unfold dyLt at this; omega
        ·rw [dn c7]
         exact good ⟨by omega, by omega, by omega, by omega, fun _ => by unfold dyLt; omega⟩
def listsP : Prop := wi mo 1 12 false ∧ wi we (-53) 53 false ∧ wi yd (-366) 366 false ∧ wi md (-31) 31 false ∧ wi ho 0 23 true ∧ wi mi 0 59 true ∧ wi se 0 59 true ∧ wi po (-366) 366 false ∧ (dwi dy ∧ ∀ j, j < dy.length → numd f we dy j)
def short : Prop := mo.length ≤ 100000 ∧ we.length ≤ 100000 ∧ yd.length ≤ 100000 ∧ md.length ≤ 100000 ∧ dy.length ≤ 100000 ∧ ho.length ≤ 100000 ∧ mi.length ≤ 100000 ∧ se.length ≤ 100000 ∧ po.length ≤ 100000
theorem lists_spec (h : short mo we yd md dy ho mi se po) : Tells (rule_mayLists.f (f, iv, ct, un, wk, en, mo, we, yd, md, dy, ho, mi, se, po, ())) (listsP f mo we yd md dy ho mi se po) := by
 obtain ⟨h1, h2, h3, h4, h5, h6, h7, h8, h9⟩ := h
 have hD := mdays_l1 f iv ct un wk en mo we yd md dy ho mi se po (by omega) (by omega) _ 0 rfl (Nat.zero_le _) fun j hj => by omega
 rw [Int.natCast_zero] at hD
 have hD2 : Tells (rule_mayDays.f (f, iv, ct, un, wk, en, mo, we, yd, md, dy, ho, mi, se, po, ())) (dwi dy ∧ ∀ j, j < dy.length → numd f we dy j) := by
  rw [rule_mayDays.f_eq]
  exact hD.iff ⟨fun q => ⟨⟨fun j hj => (q.1 j (Nat.zero_le _) hj).1, q.2⟩, fun j hj => (q.1 j (Nat.zero_le _) hj).2⟩, fun q => ⟨fun j _ hj => ⟨q.1.1 j hj, q.2 j hj⟩, q.1.2⟩⟩
 rw [rule_mayLists.f_eq]
 exact tells_and (within_spec mo 1 12 false (by omega)) (tells_and (within_spec we (-53) 53 false (by omega)) (tells_and (within_spec yd (-366) 366 false (by omega)) (tells_and (within_spec md (-31) 31 false (by omega)) (tells_and (within_spec ho 0 23 true (by omega)) (tells_and (within_spec mi 0 59 true (by omega)) (tells_and (within_spec se 0 59 true (by omega)) (tells_and (within_spec po (-366) 366 false (by omega)) (tells_last hD2))))))))
def numP : Prop := (1 ≤ f ∧ f ≤ 7 ∧ 1 ≤ iv ∧ iv ≤ 1000 ∧ 0 ≤ ct ∧ ct ≤ 4096 ∧ 0 ≤ wk ∧ wk ≤ 6) ∧ (en = true → (-62135596800 ≤ un ∧ un ≤ 253402300799) ∧ ct = 0) ∧ (en = false → un = 0)
theorem nums_spec : Tells (rule_mayNumbers.f (f, iv, ct, un, wk, en, mo, we, yd, md, dy, ho, mi, se, po, ())) (numP f iv ct un wk en) := by
 have l1t : rule_mayNumbers.l1 true (f, iv, ct, un, wk, en, mo, we, yd, md, dy, ho, mi, se, po, ()) = some (false, ()) := by rw [rule_mayNumbers.l1_eq, cond_true]
 have no : ¬ (1 ≤ f ∧ f ≤ 7 ∧ 1 ≤ iv ∧ iv ≤ 1000 ∧ 0 ≤ ct ∧ ct ≤ 4096 ∧ 0 ≤ wk ∧ wk ≤ 6) → Tells (some (false, ())) (numP f iv ct un wk en) := fun h => ⟨false, rfl, ⟨fun q => by simp at q, fun q => absurd q.1 h⟩⟩
 rw [rule_mayNumbers.f_eq]
 dsimp only
 by_cases c : 1 ≤ f ∧ f ≤ 7 ∧ 1 ≤ iv ∧ iv ≤ 1000 ∧ 0 ≤ ct ∧ ct ≤ 4096 ∧ 0 ≤ wk ∧ wk ≤ 6
 ·obtain ⟨c1, c2, c3, c4, c5, c6, c7, c8⟩ := c
  simp (disch := omega) only [ss, cond_true, cond_false, Option.bind_some, rule_mayNumbers.l1_eq, stamp_May.f_eq]
  cases en with
  | true =>
   simp (disch := omega) only [ss, cond_true, cond_false, Option.bind_some]
   by_cases d1 : un ≥ -62135596800
   ·by_cases d2 : un ≤ 253402300799
    ·simp (disch := omega) only [ss, cond_true, cond_false, Option.bind_some]
     refine ⟨_, rfl, ?_⟩
     rw [decide_eq_true_eq]
     exact ⟨fun q => ⟨⟨c1, c2, c3, c4, c5, c6, c7, c8⟩, fun _ => ⟨⟨by omega, d2⟩, q⟩, fun q => by cases q⟩, fun q => (q.2.1 rfl).2⟩
    ·simp (disch := omega) only [ss, cond_true, cond_false, Option.bind_some]
     exact ⟨false, rfl, ⟨fun q => by simp at q, fun q => by have := (q.2.1 rfl).1; omega⟩⟩
   ·simp (disch := omega) only [ss, cond_true, cond_false, Option.bind_some]
    exact ⟨false, rfl, ⟨fun q => by simp at q, fun q => by have := (q.2.1 rfl).1; omega⟩⟩
  | false =>
   simp (disch := omega) only [ss, cond_true, cond_false, Option.bind_some]
   refine ⟨_, rfl, ?_⟩
   rw [decide_eq_true_eq]
   exact ⟨fun q => ⟨⟨c1, c2, c3, c4, c5, c6, c7, c8⟩, (fun q => by cases q), fun _ => q⟩, fun q => q.2.2 rfl⟩
 ·have hb : ∀ {p : Prop} [Decidable p] {x : Option (Bool × Unit)}, (¬ p → Tells x (numP f iv ct un wk en)) → (p → Tells (some (false, ())) (numP f iv ct un wk en)) → Tells (bif decide p then (some (false, ())) else x) (numP f iv ct un wk en) := fun {p} _ {x} h1 h2 => by
   by_cases hp : p
   ·rw [dp hp, cond_true]; exact h2 hp
   ·rw [dn hp, cond_false]; exact h1 hp
  have hn := no c
  rw [l1t]
  refine hb (fun d1 => hb (fun d2 => hb (fun d3 => hb (fun d4 => hb (fun d5 => hb (fun d6 => hb (fun d7 => ?_) fun _ => hn) fun _ => hn) fun _ => hn) fun _ => hn) fun _ => hn) fun _ => hn) fun _ => hn
  have : wk > 6 := by omega
  rw [dp this, l1t]
  exact hn
def mayP : Prop := numP f iv ct un wk en ∧ listsP f mo we yd md dy ho mi se po ∧ (0 < we.length → f = 1) ∧ (0 < yd.length → ¬ (2 ≤ f ∧ f ≤ 4)) ∧ (0 < md.length → f ≠ 3)
theorem may_gate (h : short mo we yd md dy ho mi se po) : Gate (rule_May.f (f, iv, ct, un, wk, en, mo, we, yd, md, dy, ho, mi, se, po, ())) (mayP f iv ct un wk en mo we yd md dy ho mi se po) (rule_May.l5 (f, iv, ct, un, wk, en, mo, we, yd, md, dy, ho, mi, se, po, ())) := by
 have l1t : rule_May.l1 true (f, iv, ct, un, wk, en, mo, we, yd, md, dy, ho, mi, se, po, ()) = some (false, ()) := by rw [rule_May.l1_eq, cond_true]
 have l2t : rule_May.l2 true (f, iv, ct, un, wk, en, mo, we, yd, md, dy, ho, mi, se, po, ()) = some (false, ()) := by rw [rule_May.l2_eq, cond_true]
 have l3t : rule_May.l3 true (f, iv, ct, un, wk, en, mo, we, yd, md, dy, ho, mi, se, po, ()) = some (false, ()) := by rw [rule_May.l3_eq, cond_true]
 have l4t : rule_May.l4 true (f, iv, ct, un, wk, en, mo, we, yd, md, dy, ho, mi, se, po, ()) = some (false, ()) := by rw [rule_May.l4_eq, cond_true]
 have l4f : rule_May.l4 false (f, iv, ct, un, wk, en, mo, we, yd, md, dy, ho, mi, se, po, ()) = rule_May.l5 (f, iv, ct, un, wk, en, mo, we, yd, md, dy, ho, mi, se, po, ()) := by rw [rule_May.l4_eq, cond_false]
 have g3 : Gate (rule_May.l3 false (f, iv, ct, un, wk, en, mo, we, yd, md, dy, ho, mi, se, po, ())) (0 < md.length → f ≠ 3) (rule_May.l5 (f, iv, ct, un, wk, en, mo, we, yd, md, dy, ho, mi, se, po, ())) := by
  rw [rule_May.l3_eq, cond_false]
  by_cases c : (md.length : Int) > 0
  ·rw [dp c, cond_true]
   by_cases c2 : f = 3
   ·rw [dp c2, l4t]
    exact ⟨fun q => absurd c2 (q (by omega)), fun _ => rfl⟩
   ·rw [dn c2, l4f]
    exact ⟨fun _ => rfl, fun q => absurd (fun _ => c2) q⟩
  ·rw [dn c, cond_false, l4f]
   exact ⟨fun _ => rfl, fun q => absurd (fun x => by omega) q⟩
 have g2 : Gate (rule_May.l2 false (f, iv, ct, un, wk, en, mo, we, yd, md, dy, ho, mi, se, po, ())) ((0 < yd.length → ¬ (2 ≤ f ∧ f ≤ 4)) ∧ (0 < md.length → f ≠ 3)) (rule_May.l5 (f, iv, ct, un, wk, en, mo, we, yd, md, dy, ho, mi, se, po, ())) := by
  rw [rule_May.l2_eq, cond_false]
  by_cases c : (yd.length : Int) > 0
  ·rw [dp c, cond_true]
   by_cases c2 : f ≥ 2
   ·rw [dp c2, cond_true]
    by_cases c3 : f ≤ 4
    ·rw [dp c3, l3t]
     exact ⟨fun q => absurd ⟨by omega, c3⟩ (q.1 (by omega)), fun _ => rfl⟩
    ·rw [dn c3]
     exact g3.iff ⟨fun q => ⟨fun _ => by omega, q⟩, fun q => q.2⟩
   ·rw [dn c2, cond_false]
    exact g3.iff ⟨fun q => ⟨fun _ => by omega, q⟩, fun q => q.2⟩
  ·rw [dn c, cond_false]
   exact g3.iff ⟨fun q => ⟨fun x => by omega, q⟩, fun q => q.2⟩
 have g1 : Gate (rule_May.l1 false (f, iv, ct, un, wk, en, mo, we, yd, md, dy, ho, mi, se, po, ())) ((0 < we.length → f = 1) ∧ (0 < yd.length → ¬ (2 ≤ f ∧ f ≤ 4)) ∧ (0 < md.length → f ≠ 3)) (rule_May.l5 (f, iv, ct, un, wk, en, mo, we, yd, md, dy, ho, mi, se, po, ())) := by
  rw [rule_May.l1_eq, cond_false]
  by_cases c : (we.length : Int) > 0
  ·rw [dp c, cond_true]
   by_cases c2 : f = 1
   ·rw [dp c2, Bool.not_true]
    exact g2.iff ⟨fun q => ⟨fun _ => c2, q⟩, fun q => q.2⟩
   ·rw [dn c2, Bool.not_false, l2t]
    exact ⟨fun q => absurd (q.1 (by omega)) c2, fun _ => rfl⟩
  ·rw [dn c, cond_false]
   exact g2.iff ⟨fun q => ⟨fun x => by omega, q⟩, fun q => q.2⟩
 have hL : Gate ((rule_mayLists.f (f, iv, ct, un, wk, en, mo, we, yd, md, dy, ho, mi, se, po, ())).bind fun t2 => rule_May.l1 (!t2.1) (f, iv, ct, un, wk, en, mo, we, yd, md, dy, ho, mi, se, po, ())) (listsP f mo we yd md dy ho mi se po ∧ (0 < we.length → f = 1) ∧ (0 < yd.length → ¬ (2 ≤ f ∧ f ≤ 4)) ∧ (0 < md.length → f ≠ 3)) (rule_May.l5 (f, iv, ct, un, wk, en, mo, we, yd, md, dy, ho, mi, se, po, ())) := by
  have := gate_and (lists_spec f iv ct un wk en mo we yd md dy ho mi se po h) g1
  obtain ⟨b, h1, _⟩ := lists_spec f iv ct un wk en mo we yd md dy ho mi se po h
  rw [h1] at this ⊢
  simp only [Option.bind_some] at this ⊢
  cases b with
  | true => exact this
  | false => rw [Bool.not_false, l1t]; exact this
 rw [rule_May.f_eq]
 have := gate_and (nums_spec f iv ct un wk en mo we yd md dy ho mi se po) hL
 simp only [l1t]
 exact this
end
end Go.GV.YtaeejbmbkejjiaaGreatDoor
namespace Go.GV.YtaeejbmbkejjiaaGreatDoor
open Go.Proofs
theorem gate_no {K : Option (Bool × Unit)} {p : Prop} (h : ¬ p) : Gate (some (false, ())) p K := ⟨fun q => absurd q h, fun _ => rfl⟩
theorem wi_one (l : List Int) (hi : Int) (z : Bool) : wi l 1 hi z ↔ wi l 1 hi false := by
 unfold wi
 constructor
 ·exact fun h => ⟨fun j hj => ⟨⟨(h.1 j hj).1.1, (h.1 j hj).1.2.1, fun q => by have := (h.1 j hj).1.1; omega⟩, (h.1 j hj).2⟩, h.2⟩
 ·exact fun h => ⟨fun j hj => ⟨⟨(h.1 j hj).1.1, (h.1 j hj).1.2.1, fun q => by have := (h.1 j hj).1.1; omega⟩, (h.1 j hj).2⟩, h.2⟩
section
variable (f iv ct un wk : Int) (en : Bool) (mo we yd md : List Int) (dy : List Dy) (ho mi se po : List Int)
theorem vgate (h : short mo we yd md dy ho mi se po) : Gate (vokref4_May.f (f, iv, ct, un, wk, en, mo, we, yd, md, dy, ho, mi, se, po, ())) (mayP f iv ct un wk en mo we yd md dy ho mi se po) (vokref4_May.l8 (f, iv, ct, un, wk, en, mo, we, yd, md, dy, ho, mi, se, po, ())) := by
 obtain ⟨h1, h2, h3, h4, h5, h6, h7, h8, h9⟩ := h
 have l1t : vokref4_May.l1 true (f, iv, ct, un, wk, en, mo, we, yd, md, dy, ho, mi, se, po, ()) = some (false, ()) := by rw [vokref4_May.l1_eq, cond_true]
 have l2t : vokref4_May.l2 true (f, iv, ct, un, wk, en, mo, we, yd, md, dy, ho, mi, se, po, ()) = some (false, ()) := by rw [vokref4_May.l2_eq, cond_true]
 have l2f : vokref4_May.l2 false (f, iv, ct, un, wk, en, mo, we, yd, md, dy, ho, mi, se, po, ()) = vokref4_May.l3 (f, iv, ct, un, wk, en, mo, we, yd, md, dy, ho, mi, se, po, ()) := by rw [vokref4_May.l2_eq, cond_false]
 have l4t : vokref4_May.l4 true (f, iv, ct, un, wk, en, mo, we, yd, md, dy, ho, mi, se, po, ()) = some (false, ()) := by rw [vokref4_May.l4_eq, cond_true]
 have l5t : vokref4_May.l5 true (f, iv, ct, un, wk, en, mo, we, yd, md, dy, ho, mi, se, po, ()) = some (false, ()) := by rw [vokref4_May.l5_eq, cond_true]
 have l5f : vokref4_May.l5 false (f, iv, ct, un, wk, en, mo, we, yd, md, dy, ho, mi, se, po, ()) = vokref4_May.l6 (f, iv, ct, un, wk, en, mo, we, yd, md, dy, ho, mi, se, po, ()) := by rw [vokref4_May.l5_eq, cond_false]
 have l7t : vokref4_May.l7 true (f, iv, ct, un, wk, en, mo, we, yd, md, dy, ho, mi, se, po, ()) = some (false, ()) := by rw [vokref4_May.l7_eq, cond_true]
 have l7f : vokref4_May.l7 false (f, iv, ct, un, wk, en, mo, we, yd, md, dy, ho, mi, se, po, ()) = vokref4_May.l8 (f, iv, ct, un, wk, en, mo, we, yd, md, dy, ho, mi, se, po, ()) := by rw [vokref4_May.l7_eq, cond_false]
 have g6 : Gate (vokref4_May.l6 (f, iv, ct, un, wk, en, mo, we, yd, md, dy, ho, mi, se, po, ())) (∀ j, j < dy.length → numd f we dy j) (vokref4_May.l8 (f, iv, ct, un, wk, en, mo, we, yd, md, dy, ho, mi, se, po, ())) := by
  rw [vokref4_May.l6_eq]
  obtain ⟨b, e1, e2⟩ := vnumb_spec dy (by omega)
  rw [e1]
  simp only [Option.bind_some]
  cases b with
  | false =>
   rw [cond_false, l7f]
   have : ∀ j, j < dy.length → numd f we dy j := fun j hj hn => absurd (e2.2 ⟨j, hj, hn⟩) (by simp)
   exact ⟨fun _ => rfl, fun q => absurd this q⟩
  | true =>
   obtain ⟨j, hj, hn⟩ := e2.1 rfl
   rw [cond_true]
   by_cases c2 : f = 2
   ·simp (disch := omega) only [ss, cond_true, cond_false, Option.bind_some, l7f]
    exact ⟨fun _ => rfl, fun q => absurd (fun _ _ _ => .inl c2) q⟩
   ·by_cases c3 : f = 1
    ·by_cases c4 : (we.length : Int) > 0
     ·simp (disch := omega) only [ss, cond_true, cond_false, Option.bind_some, l7t]
      exact gate_no fun q => by rcases q j hj hn with q | q <;> omega
     ·simp (disch := omega) only [ss, cond_true, cond_false, Option.bind_some, l7f]
      exact ⟨fun _ => rfl, fun q => absurd (fun _ _ _ => .inr ⟨c3, by omega⟩) q⟩
    ·simp (disch := omega) only [ss, cond_true, cond_false, Option.bind_some, l7t]
     exact gate_no fun q => by rcases q j hj hn with q | q <;> omega
 have g4 : Gate (vokref4_May.l4 false (f, iv, ct, un, wk, en, mo, we, yd, md, dy, ho, mi, se, po, ())) (((0 < we.length → f = 1) ∧ (0 < yd.length → ¬ (2 ≤ f ∧ f ≤ 4)) ∧ (0 < md.length → f ≠ 3)) ∧ ∀ j, j < dy.length → numd f we dy j) (vokref4_May.l8 (f, iv, ct, un, wk, en, mo, we, yd, md, dy, ho, mi, se, po, ())) := by
  have hm : ((0 < we.length → f = 1) ∧ (0 < yd.length → ¬ (2 ≤ f ∧ f ≤ 4))) → Gate (bif decide ((md.length : Int) > 0) then (vokref4_May.l5 (decide (f = 3)) (f, iv, ct, un, wk, en, mo, we, yd, md, dy, ho, mi, se, po, ())) else (vokref4_May.l5 false (f, iv, ct, un, wk, en, mo, we, yd, md, dy, ho, mi, se, po, ()))) (((0 < we.length → f = 1) ∧ (0 < yd.length → ¬ (2 ≤ f ∧ f ≤ 4)) ∧ (0 < md.length → f ≠ 3)) ∧ ∀ j, j < dy.length → numd f we dy j) (vokref4_May.l8 (f, iv, ct, un, wk, en, mo, we, yd, md, dy, ho, mi, se, po, ())) := fun hh => by
   by_cases c : (md.length : Int) > 0
   ·rw [dp c, cond_true]
    by_cases c2 : f = 3
    ·rw [dp c2, l5t]
     exact gate_no fun q => q.1.2.2 (by omega) c2
    ·rw [dn c2, l5f]
     exact g6.iff ⟨fun q => ⟨⟨hh.1, hh.2, fun _ => c2⟩, q⟩, fun q => q.2⟩
   ·rw [dn c, cond_false, l5f]
    exact g6.iff ⟨fun q => ⟨⟨hh.1, hh.2, fun x => by omega⟩, q⟩, fun q => q.2⟩
  have hy : (0 < we.length → f = 1) → Gate (bif decide ((yd.length : Int) > 0) then (bif decide (f ≥ 2) then (bif decide (f ≤ 4) then (vokref4_May.l5 true (f, iv, ct, un, wk, en, mo, we, yd, md, dy, ho, mi, se, po, ())) else (bif decide ((md.length : Int) > 0) then (vokref4_May.l5 (decide (f = 3)) (f, iv, ct, un, wk, en, mo, we, yd, md, dy, ho, mi, se, po, ())) else (vokref4_May.l5 false (f, iv, ct, un, wk, en, mo, we, yd, md, dy, ho, mi, se, po, ())))) else (bif decide ((md.length : Int) > 0) then (vokref4_May.l5 (decide (f = 3)) (f, iv, ct, un, wk, en, mo, we, yd, md, dy, ho, mi, se, po, ())) else (vokref4_May.l5 false (f, iv, ct, un, wk, en, mo, we, yd, md, dy, ho, mi, se, po, ())))) else (bif decide ((md.length : Int) > 0) then (vokref4_May.l5 (decide (f = 3)) (f, iv, ct, un, wk, en, mo, we, yd, md, dy, ho, mi, se, po, ())) else (vokref4_May.l5 false (f, iv, ct, un, wk, en, mo, we, yd, md, dy, ho, mi, se, po, ())))) (((0 < we.length → f = 1) ∧ (0 < yd.length → ¬ (2 ≤ f ∧ f ≤ 4)) ∧ (0 < md.length → f ≠ 3)) ∧ ∀ j, j < dy.length → numd f we dy j) (vokref4_May.l8 (f, iv, ct, un, wk, en, mo, we, yd, md, dy, ho, mi, se, po, ())) := fun hh => by
   by_cases c : (yd.length : Int) > 0
   ·rw [dp c, cond_true]
    by_cases c2 : f ≥ 2
    ·rw [dp c2, cond_true]
     by_cases c3 : f ≤ 4
     ·rw [dp c3, cond_true, l5t]
      exact gate_no fun q => q.1.2.1 (by omega) ⟨by omega, c3⟩
     ·rw [dn c3, cond_false]
      exact hm ⟨hh, fun _ => by omega⟩
    ·rw [dn c2, cond_false]
     exact hm ⟨hh, fun _ => by omega⟩
   ·rw [dn c, cond_false]
    exact hm ⟨hh, fun x => by omega⟩
  rw [vokref4_May.l4_eq, cond_false]
  by_cases c : (we.length : Int) > 0
  ·rw [dp c, cond_true]
   by_cases c2 : f = 1
   ·rw [dp c2, Bool.not_true, cond_false]
    exact hy fun _ => c2
   ·rw [dn c2, Bool.not_false, cond_true, l5t]
    exact gate_no fun q => c2 (q.1.1 (by omega))
  ·rw [dn c, cond_false]
   exact hy fun x => by omega
 have g3 : Gate (vokref4_May.l3 (f, iv, ct, un, wk, en, mo, we, yd, md, dy, ho, mi, se, po, ())) (wi mo 1 12 true ∧ wi we (-53) 53 false ∧ wi yd (-366) 366 false ∧ wi md (-31) 31 false ∧ wi po (-366) 366 false ∧ wi ho 0 23 true ∧ wi mi 0 59 true ∧ wi se 0 59 true ∧ dwi dy ∧ (((0 < we.length → f = 1) ∧ (0 < yd.length → ¬ (2 ≤ f ∧ f ≤ 4)) ∧ (0 < md.length → f ≠ 3)) ∧ ∀ j, j < dy.length → numd f we dy j)) (vokref4_May.l8 (f, iv, ct, un, wk, en, mo, we, yd, md, dy, ho, mi, se, po, ())) := by
  have hlast : ∀ {q : Prop}, Gate (vokref4_May.l4 false (f, iv, ct, un, wk, en, mo, we, yd, md, dy, ho, mi, se, po, ())) q (vokref4_May.l8 (f, iv, ct, un, wk, en, mo, we, yd, md, dy, ho, mi, se, po, ())) → Gate ((vokref4_dayList.f dy).bind fun t10 => vokref4_May.l4 (!t10.1) (f, iv, ct, un, wk, en, mo, we, yd, md, dy, ho, mi, se, po, ())) (dwi dy ∧ q) (vokref4_May.l8 (f, iv, ct, un, wk, en, mo, we, yd, md, dy, ho, mi, se, po, ())) := fun {q} hq => by
   have := gate_and (vdl_spec dy (by omega)) hq
   obtain ⟨b, e1, _⟩ := vdl_spec dy (by omega)
   rw [e1] at this ⊢
   simp only [Option.bind_some] at this ⊢
   cases b with
   | true => exact this
   | false => rw [Bool.not_false, l4t]; exact this
  rw [vokref4_May.l3_eq]
  simp only [l4t]
  exact gate_and (vwithin_spec mo 1 12 true (by omega)) (gate_and (vwithin_spec we (-53) 53 false (by omega)) (gate_and (vwithin_spec yd (-366) 366 false (by omega)) (gate_and (vwithin_spec md (-31) 31 false (by omega)) (gate_and (vwithin_spec po (-366) 366 false (by omega)) (gate_and (vwithin_spec ho 0 23 true (by omega)) (gate_and (vwithin_spec mi 0 59 true (by omega)) (gate_and (vwithin_spec se 0 59 true (by omega)) (hlast g4))))))))
 have g3' := g3.iff (q := listsP f mo we yd md dy ho mi se po ∧ (0 < we.length → f = 1) ∧ (0 < yd.length → ¬ (2 ≤ f ∧ f ≤ 4)) ∧ (0 < md.length → f ≠ 3)) (by
  rw [wi_one mo 12 true]
  unfold listsP
  constructor
  ·rintro ⟨a1, a2, a3, a4, a5, a6, a7, a8, a9, a10, a11⟩
   exact ⟨⟨a1, a2, a3, a4, a6, a7, a8, a5, a9, a11⟩, a10⟩
  ·rintro ⟨⟨a1, a2, a3, a4, a6, a7, a8, a5, a9, a11⟩, a10⟩
   exact ⟨a1, a2, a3, a4, a5, a6, a7, a8, a9, a10, a11⟩)
 have no : ¬ numP f iv ct un wk en → Gate (some (false, ())) (mayP f iv ct un wk en mo we yd md dy ho mi se po) (vokref4_May.l8 (f, iv, ct, un, wk, en, mo, we, yd, md, dy, ho, mi, se, po, ())) := fun hn => gate_no fun q => hn q.1
 have yes : numP f iv ct un wk en → Gate (vokref4_May.l3 (f, iv, ct, un, wk, en, mo, we, yd, md, dy, ho, mi, se, po, ())) (mayP f iv ct un wk en mo we yd md dy ho mi se po) (vokref4_May.l8 (f, iv, ct, un, wk, en, mo, we, yd, md, dy, ho, mi, se, po, ())) := fun hn => g3'.iff ⟨fun q => ⟨hn, q⟩, fun q => q.2⟩
 rw [vokref4_May.f_eq]
 dsimp only
 by_cases c : 1 ≤ f ∧ f ≤ 7 ∧ 1 ≤ iv ∧ iv ≤ 1000 ∧ 0 ≤ ct ∧ ct ≤ 4096 ∧ 0 ≤ wk ∧ wk ≤ 6
 ·have c' := c
  obtain ⟨c1, c2, c3, c4, c5, c6, c7, c8⟩ := c
  simp (disch := omega) only [ss, cond_true, cond_false, Option.bind_some, vokref4_May.l1_eq, vokref1_May.f_eq]
  cases en with
  | true =>
   simp (disch := omega) only [ss, cond_true, cond_false, Option.bind_some]
   by_cases d0 : ct > 0
   ·simp (disch := omega) only [ss, cond_true, cond_false, Option.bind_some, l2t]
    exact no fun q => by have := (q.2.1 rfl).2; omega
   ·by_cases d1 : un ≥ -62135596800
    ·by_cases d2 : un < 253402300800
     ·simp (disch := omega) only [ss, cond_true, cond_false, Option.bind_some, l2f]
      exact yes ⟨c', fun _ => ⟨⟨by omega, by omega⟩, by omega⟩, fun q => by cases q⟩
     ·simp (disch := omega) only [ss, cond_true, cond_false, Option.bind_some, l2t]
      exact no fun q => by have := (q.2.1 rfl).1; omega
    ·simp (disch := omega) only [ss, cond_true, cond_false, Option.bind_some, l2t]
     exact no fun q => by have := (q.2.1 rfl).1; omega
  | false =>
   by_cases d0 : un = 0
   ·simp (disch := omega) only [ss, cond_true, cond_false, Option.bind_some, l2f]
    exact yes ⟨c', (fun q => by cases q), fun _ => d0⟩
   ·simp (disch := omega) only [ss, cond_true, cond_false, Option.bind_some, l2t]
    exact no fun q => d0 (q.2.2 rfl)
 ·have hn := no fun q => c q.1
  have hb : ∀ {p : Prop} [Decidable p] {x : Option (Bool × Unit)}, (¬ p → Gate x (mayP f iv ct un wk en mo we yd md dy ho mi se po) (vokref4_May.l8 (f, iv, ct, un, wk, en, mo, we, yd, md, dy, ho, mi, se, po, ()))) → Gate (bif decide p then (some (false, ())) else x) (mayP f iv ct un wk en mo we yd md dy ho mi se po) (vokref4_May.l8 (f, iv, ct, un, wk, en, mo, we, yd, md, dy, ho, mi, se, po, ())) := fun {p} _ {x} h1 => by
   by_cases hp : p
   ·rw [dp hp, cond_true]; exact hn
   ·rw [dn hp, cond_false]; exact h1 hp
  rw [l1t]
  refine hb fun d1 => hb fun d2 => hb fun d3 => hb fun d4 => hb fun d5 => hb fun d6 => hb fun d7 => ?_
  have : wk > 6 := by omega
  rw [dp this, l1t]
  exact hn
theorem tail_same : rule_May.l5 (f, iv, ct, un, wk, en, mo, we, yd, md, dy, ho, mi, se, po, ()) = vokref4_May.l8 (f, iv, ct, un, wk, en, mo, we, yd, md, dy, ho, mi, se, po, ()) := by
 have e7 : rule_May.l7 (f, iv, ct, un, wk, en, mo, we, yd, md, dy, ho, mi, se, po, ()) = vokref4_May.l10 (f, iv, ct, un, wk, en, mo, we, yd, md, dy, ho, mi, se, po, ()) := by rw [rule_May.l7_eq, vokref4_May.l10_eq]
 have e6 : ∀ b, rule_May.l6 b (f, iv, ct, un, wk, en, mo, we, yd, md, dy, ho, mi, se, po, ()) = vokref4_May.l9 b (f, iv, ct, un, wk, en, mo, we, yd, md, dy, ho, mi, se, po, ()) := fun b => by rw [rule_May.l6_eq, vokref4_May.l9_eq, e7]
 rw [rule_May.l5_eq, vokref4_May.l8_eq, e6, e6]
end
theorem may_same (r : Rl) (h : short r.2.2.2.2.2.2.1 r.2.2.2.2.2.2.2.1 r.2.2.2.2.2.2.2.2.1 r.2.2.2.2.2.2.2.2.2.1 r.2.2.2.2.2.2.2.2.2.2.1 r.2.2.2.2.2.2.2.2.2.2.2.1 r.2.2.2.2.2.2.2.2.2.2.2.2.1 r.2.2.2.2.2.2.2.2.2.2.2.2.2.1 r.2.2.2.2.2.2.2.2.2.2.2.2.2.2.1) : rule_May.f r = vokref4_May.f r := by
 obtain ⟨f, iv, ct, un, wk, en, mo, we, yd, md, dy, ho, mi, se, po, ⟨⟩⟩ := r
 have g1 := may_gate f iv ct un wk en mo we yd md dy ho mi se po h
 rw [tail_same] at g1
 exact g1.eq (vgate f iv ct un wk en mo we yd md dy ho mi se po h)
theorem may_some (r : Rl) (h : short r.2.2.2.2.2.2.1 r.2.2.2.2.2.2.2.1 r.2.2.2.2.2.2.2.2.1 r.2.2.2.2.2.2.2.2.2.1 r.2.2.2.2.2.2.2.2.2.2.1 r.2.2.2.2.2.2.2.2.2.2.2.1 r.2.2.2.2.2.2.2.2.2.2.2.2.1 r.2.2.2.2.2.2.2.2.2.2.2.2.2.1 r.2.2.2.2.2.2.2.2.2.2.2.2.2.2.1) : ∃ b, rule_May.f r = some (b, ()) := by
 obtain ⟨f, iv, ct, un, wk, en, mo, we, yd, md, dy, ho, mi, se, po, ⟨⟩⟩ := r
 have g1 := may_gate f iv ct un wk en mo we yd md dy ho mi se po h
 by_cases hp : mayP f iv ct un wk en mo we yd md dy ho mi se po
 ·rw [g1.1 hp, rule_May.l5_eq]
  have e7 : ∃ b, rule_May.l7 (f, iv, ct, un, wk, en, mo, we, yd, md, dy, ho, mi, se, po, ()) = some (b, ()) := by
   rw [rule_May.l7_eq]
   cases decide (f > 4) with
   | true => exact ⟨_, rfl⟩
   | false => exact ⟨_, rfl⟩
  have e6 : ∀ c, ∃ b, rule_May.l6 c (f, iv, ct, un, wk, en, mo, we, yd, md, dy, ho, mi, se, po, ()) = some (b, ()) := fun c => by
   rw [rule_May.l6_eq]
   cases c with
   | true => exact ⟨_, rfl⟩
   | false => exact e7
  cases decide ((po.length : Int) > 0) with
  | true => exact e6 _
  | false => exact e6 _
 ·exact ⟨false, g1.2 hp⟩
end Go.GV.YtaeejbmbkejjiaaGreatDoor
namespace Go.GV.YtaeejbmbkejjiaaGreatDoor
open Go.Proofs
theorem index_l1 (l : List Int) (x : Int) (hl : l.length ≤ 1000000) : ∀ (k i : Nat), l.length - i = k → i ≤ l.length → ∃ n : Int, slices_Index_int_int.l1 l x l.length i = some (n, ()) ∧ (n ≥ 0 ↔ x ∈ l.drop i) := by
 intro k
 induction k with
 | zero =>
  intro i hk hil
  refine ⟨-1, ?_, ?_⟩
  ·rw [slices_Index_int_int.l1_eq]
   simp (disch := omega) only [ss, cond_true, cond_false, Option.bind_some]
  ·rw [List.drop_eq_nil_of_le (by omega)]
   simp
 | succ k ih =>
  intro i hk hil
  have hlt : i < l.length := by omega
  rw [slices_Index_int_int.l1_eq, drop_getD' 0 hlt]
  by_cases c : x = l.getD i 0
  ·refine ⟨i, ?_, ?_⟩
   ·simp (disch := omega) only [ss, cond_true, cond_false, Option.bind_some]
   ·exact ⟨fun _ => by rw [c]; exact List.mem_cons_self .., fun _ => by omega⟩
  ·obtain ⟨n, h1, h2⟩ := ih (i + 1) (by omega) (by omega)
   rw [Int.natCast_add, Int.natCast_one] at h1
   refine ⟨n, ?_, ?_⟩
   ·simp (disch := omega) only [ss, cond_true, cond_false, Option.bind_some, h1]
   ·rw [h2, List.mem_cons]
    exact ⟨.inr, fun h => h.resolve_left c⟩
theorem contains_int (l : List Int) (x : Int) (hl : l.length ≤ 1000000) : slices_Contains_int_int.f l x = some (decide (x ∈ l), ()) := by
 obtain ⟨n, h1, h2⟩ := index_l1 l x hl _ 0 rfl (Nat.zero_le _)
 rw [Int.natCast_zero] at h1
 rw [List.drop_zero] at h2
 rw [slices_Contains_int_int.f_eq, slices_Index_int_int.f_eq, h1]
 simp only [Option.bind_some]
 rw [decide_eq_decide.2 h2]
theorem has_spec (l : List Int) (x : Int) (hl : l.length ≤ 1000000) : vokref_Has.f l x = some (decide (x ∈ l), ()) := by
 have key : ∀ (k i : Nat), l.length - i = k → i ≤ l.length → vokref_Has.l1 l x i = some (decide (x ∈ l.drop i), ()) := by
  intro k
  induction k with
  | zero =>
   intro i hk hil
   rw [vokref_Has.l1_eq, List.drop_eq_nil_of_le (by omega)]
   simp (disch := omega) only [ss, cond_true, cond_false, Option.bind_some]
   rfl
  | succ k ih =>
   intro i hk hil
   have hlt : i < l.length := by omega
   have := ih (i + 1) (by omega) (by omega)
   rw [Int.natCast_add, Int.natCast_one] at this
   rw [vokref_Has.l1_eq, drop_getD' 0 hlt]
   by_cases c : l.getD i 0 = x
   ·rw [dp (show x ∈ l.getD i 0 :: l.drop (i + 1) by rw [c]; exact List.mem_cons_self ..)]
    simp (disch := omega) only [ss, cond_true, cond_false, Option.bind_some]
   ·have e : decide (x ∈ l.getD i 0 :: l.drop (i + 1)) = decide (x ∈ l.drop (i + 1)) := decide_eq_decide.2 (by rw [List.mem_cons]; exact ⟨fun h => h.resolve_left fun q => c q.symm, .inr⟩)
    rw [e]
    simp (disch := omega) only [ss, cond_true, cond_false, Option.bind_some, this]
 have := key _ 0 rfl (Nat.zero_le _)
 rw [Int.natCast_zero, List.drop_zero] at this
 rw [vokref_Has.f_eq]
 exact this
def hasP (l : List Int) (n all : Int) : Prop := l = [] ∨ n ∈ l ∨ n - all - 1 ∈ l
theorem dhas_spec (l : List Int) (n all : Int) (hl : l.length ≤ 1000000) (hn : 0 ≤ n ∧ n ≤ 1000) (ha : 0 ≤ all ∧ all ≤ 1000) : Tells (days_has.f l n all) (hasP l n all) := by
 unfold hasP
 rw [days_has.f_eq]
 by_cases c : l = []
 ·subst c
  rw [List.length_nil]
  exact ⟨true, by simp (disch := omega) only [ss, cond_true, cond_false, Option.bind_some], by simp⟩
 ·have hp : ¬ (l.length : Int) = 0 := by have := List.length_pos_iff.2 c; omega
  by_cases c1 : n ∈ l
  ·exact ⟨true, by simp (disch := omega) only [ss, cond_true, cond_false, Option.bind_some, contains_int l n hl, dp c1], by simp [c1]⟩
  ·refine ⟨decide (n - all - 1 ∈ l), ?_, ?_⟩
   ·simp (disch := omega) only [ss, cond_true, cond_false, Option.bind_some, contains_int l _ hl, dn c1]
   ·rw [decide_eq_true_iff]
    simp [c, c1]
theorem ylen_spec (y : Int) (hy : 0 ≤ y) : days_yearLength.f y = some (cum y 13, ()) := by
 rw [days_yearLength.f_eq, leap_spec y hy]
 have h3 : (3 : Int) ≤ 13 := by omega
 unfold cum cumT
 cases leapB y with
 | true => simp
 | false => simp
theorem of_spec (n y m d : Int) (e : civil_Date.f n = some (y, m, d, 0, ())) : days_of.f n = some ((n, y, m, d, wk n, ()), true, ()) := by
 rw [days_of.f_eq, e]
 simp only [Option.bind_some]
 rw [weekday_spec]
 rfl
theorem of_none (n : Int) (h : ¬ (-719162 ≤ n ∧ n ≤ 2932896)) : days_of.f n = some ((n, 0, 0, 0, wk n, ()), false, ()) := by
 rw [days_of.f_eq, (date_none n h).1]
 simp only [Option.bind_some]
 rw [weekday_spec]
 rfl
def wdP (f : Int) (mo : List Int) (dy : List Dy) (n y m d : Int) : Prop :=
 dy = [] ∨ ∃ x ∈ dy, x.2.1 = wk n ∧ (x.1 = 0 ∨ x.1 = ((if f = 2 ∨ mo ≠ [] then d else n - fst_ y + 1) - 1) / 7 + 1 ∨ x.1 = -(((if f = 2 ∨ mo ≠ [] then mlen y m else cum y 13) - (if f = 2 ∨ mo ≠ [] then d else n - fst_ y + 1)) / 7 + 1))
theorem wd_loop (fr bk n y m d : Int) (l : List Dy) (hl : l.length ≤ 1000000) : ∀ (k i : Nat), l.length - i = k → i ≤ l.length →
  Tells (days_wdayFits.l3 fr bk l l.length i (n, y, m, d, wk n, ())) (∃ x ∈ l.drop i, x.2.1 = wk n ∧ (x.1 = 0 ∨ x.1 = fr ∨ x.1 = bk)) := by
 intro k
 induction k with
 | zero =>
  intro i hk hil
  rw [days_wdayFits.l3_eq, List.drop_eq_nil_of_le (by omega)]
  exact ⟨false, by simp (disch := omega) only [ss, cond_true, cond_false, Option.bind_some], by simp⟩
 | succ k ih =>
  intro i hk hil
  have hlt : i < l.length := by omega
  obtain ⟨b, h1, h2⟩ := ih (i + 1) (by omega) (by omega)
  rw [Int.natCast_add, Int.natCast_one] at h1
  rw [days_wdayFits.l3_eq, drop_getD' ((0, 0, ()) : Dy) hlt]
  generalize hx : l.getD i ((0, 0, ()) : Dy) = x
  have hx' : l.getD i ((0, 0, ()) : Int × Int × Unit) = x := hx
  by_cases c : x.2.1 = wk n ∧ (x.1 = 0 ∨ x.1 = fr ∨ x.1 = bk)
  ·refine ⟨true, ?_, by simp only [true_iff]; exact ⟨x, List.mem_cons_self .., c⟩⟩
   obtain ⟨c1, c2⟩ := c
   by_cases d0 : x.1 = 0
   ·simp (disch := omega) only [ss, cond_true, cond_false, Option.bind_some, hx', days_wdayFits.l4_eq]
   ·by_cases d1 : x.1 = fr
    ·simp (disch := omega) only [ss, cond_true, cond_false, Option.bind_some, hx', days_wdayFits.l4_eq]
    ·have d2 : x.1 = bk := by omega
     simp (disch := omega) only [ss, cond_true, cond_false, Option.bind_some, hx', days_wdayFits.l4_eq]
  ·refine ⟨b, ?_, ?_⟩
   ·by_cases c1 : x.2.1 = wk n
    ·have d0 : ¬ x.1 = 0 := fun q => c ⟨c1, .inl q⟩
     have d1 : ¬ x.1 = fr := fun q => c ⟨c1, .inr (.inl q)⟩
     have d2 : ¬ x.1 = bk := fun q => c ⟨c1, .inr (.inr q)⟩
     simp (disch := omega) only [ss, cond_true, cond_false, Option.bind_some, hx', days_wdayFits.l4_eq, h1]
    ·simp (disch := omega) only [ss, cond_true, cond_false, Option.bind_some, hx', days_wdayFits.l4_eq, h1]
   ·rw [h2]
    constructor
    ·rintro ⟨z, hz, h⟩
     exact ⟨z, List.mem_cons_of_mem _ hz, h⟩
    ·rintro ⟨z, hz, h⟩
     rcases List.mem_cons.1 hz with e | hz
     ·exact absurd (e ▸ h) c
     ·exact ⟨z, hz, h⟩
section
variable (f iv ct un wkst : Int) (en : Bool) (mo we yd md : List Int) (dy : List Dy) (ho mi se po : List Int)
theorem wday_fits (n y m d : Int) (hs : mo.length ≤ 100000 ∧ dy.length ≤ 100000) (h : isDate n y m d) (e : civil_Date.f n = some (y, m, d, 0, ())) :
  Tells (days_wdayFits.f (f, iv, ct, un, wkst, en, mo, we, yd, md, dy, ho, mi, se, po, ()) (n, y, m, d, wk n, ())) (wdP f mo dy n y m d) := by
 obtain ⟨q1, q2, q3, q4, q5, q6⟩ := date_bd h
 obtain ⟨v1, v2, v3, v4⟩ := valid_iff.1 h.1
 have hy := fst_step0 y (by omega)
 have h13 := cum13 y
 have hs13 := fst_step y v1
 have hml := mlen_bd y m
 have hl0 := wd_loop
 unfold wdP
 rw [days_wdayFits.f_eq]
 by_cases c : dy = []
 ·subst c
  exact ⟨true, by simp (disch := omega) only [ss, cond_true, cond_false, Option.bind_some, List.length_nil], by simp⟩
 ·have hp : ¬ (dy.length : Int) = 0 := by have := List.length_pos_iff.2 c; omega
  have go : ∀ at_ all : Int, 1 ≤ at_ → at_ ≤ all → all ≤ 400 → Tells (days_wdayFits.l2 at_ all (f, iv, ct, un, wkst, en, mo, we, yd, md, dy, ho, mi, se, po, ()) (n, y, m, d, wk n, ())) (∃ x ∈ dy, x.2.1 = wk n ∧ (x.1 = 0 ∨ x.1 = (at_ - 1) / 7 + 1 ∨ x.1 = -((all - at_) / 7 + 1))) := fun at_ all a1 a2 a3 => by
   have := wd_loop ((at_ - 1) / 7 + 1) (-((all - at_) / 7 + 1)) n y m d dy (by omega) _ 0 rfl (Nat.zero_le _)
   rw [Int.natCast_zero, List.drop_zero] at this
   have e0 : 0 - ((all - at_) / 7 + 1) = -((all - at_) / 7 + 1) := by omega
   rw [days_wdayFits.l2_eq]
   simp (disch := omega) only [ss, cond_true, cond_false, Option.bind_some, tdn (show (0 : Int) ≤ at_ - 1 by omega), tdn (show (0 : Int) ≤ all - at_ by omega), e0]
   exact this
  have e1 := yearday_spec n y m d h e
  have e2 := ylen_spec y (by omega)
  have e3 := length_spec y m (by omega)
  by_cases c2 : f = 2 ∨ mo ≠ []
  ·have l1 : days_wdayFits.l1 (n - fst_ y + 1) (cum y 13) true (f, iv, ct, un, wkst, en, mo, we, yd, md, dy, ho, mi, se, po, ()) (n, y, m, d, wk n, ()) = days_wdayFits.l2 d (mlen y m) (f, iv, ct, un, wkst, en, mo, we, yd, md, dy, ho, mi, se, po, ()) (n, y, m, d, wk n, ()) := by
    rw [days_wdayFits.l1_eq]
    simp (disch := omega) only [ss, cond_true, cond_false, Option.bind_some, e3]
   rw [if_pos c2, if_pos c2]
   have g := go d (mlen y m) v3 v4 (by omega)
   have hc : (dy = [] ∨ ∃ x ∈ dy, x.2.1 = wk n ∧ (x.1 = 0 ∨ x.1 = (d - 1) / 7 + 1 ∨ x.1 = -((mlen y m - d) / 7 + 1))) ↔ (∃ x ∈ dy, x.2.1 = wk n ∧ (x.1 = 0 ∨ x.1 = (d - 1) / 7 + 1 ∨ x.1 = -((mlen y m - d) / 7 + 1))) := ⟨fun h => h.resolve_left c, .inr⟩
   refine Tells.iff ?_ hc.symm
   by_cases c3 : f = 2
   ·simp (disch := omega) only [ss, cond_true, cond_false, Option.bind_some, e1, e2, l1]
    exact g
   ·have hm : mo ≠ [] := c2.resolve_left c3
    have hmp : (mo.length : Int) > 0 := by have := List.length_pos_iff.2 hm; omega
    simp (disch := omega) only [ss, cond_true, cond_false, Option.bind_some, e1, e2, l1]
    exact g
  ·rw [if_neg c2, if_neg c2]
   have c3 : ¬ f = 2 := fun q => c2 (.inl q)
   have c4 : mo = [] := Classical.byContradiction fun q => c2 (.inr q)
   subst c4
   have l1 : days_wdayFits.l1 (n - fst_ y + 1) (cum y 13) false (f, iv, ct, un, wkst, en, [], we, yd, md, dy, ho, mi, se, po, ()) (n, y, m, d, wk n, ()) = days_wdayFits.l2 (n - fst_ y + 1) (cum y 13) (f, iv, ct, un, wkst, en, [], we, yd, md, dy, ho, mi, se, po, ()) (n, y, m, d, wk n, ()) := by
    rw [days_wdayFits.l1_eq, cond_false]
   have g := go (n - fst_ y + 1) (cum y 13) (by omega) (by omega) (by omega)
   have hc : (dy = [] ∨ ∃ x ∈ dy, x.2.1 = wk n ∧ (x.1 = 0 ∨ x.1 = (n - fst_ y + 1 - 1) / 7 + 1 ∨ x.1 = -((cum y 13 - (n - fst_ y + 1)) / 7 + 1))) ↔ (∃ x ∈ dy, x.2.1 = wk n ∧ (x.1 = 0 ∨ x.1 = (n - fst_ y + 1 - 1) / 7 + 1 ∨ x.1 = -((cum y 13 - (n - fst_ y + 1)) / 7 + 1))) := ⟨fun h => h.resolve_left c, .inr⟩
   refine Tells.iff ?_ hc.symm
   have hnil : (([] : List Int).length : Int) = 0 := rfl
   simp (disch := omega) only [ss, cond_true, cond_false, Option.bind_some, e1, e2, hnil, l1]
   exact g
def stP (m0 d0 w0 n m d : Int) : Prop := (yd ≠ [] ∨ md ≠ [] ∨ dy ≠ []) ∨ ((we ≠ [] ∧ wk n = w0) ∨ (we = [] ∧ ((f = 1 ∧ d = d0 ∧ (mo ≠ [] ∨ m = m0)) ∨ (f = 2 ∧ d = d0) ∨ (f = 3 ∧ wk n = w0) ∨ (f ≠ 1 ∧ f ≠ 2 ∧ f ≠ 3))))
theorem ne_len {α : Type} {l : List α} : l ≠ [] ↔ (l.length : Int) > 0 := by
 rw [← List.length_pos_iff]
 omega
theorem start_fits (s sec n0 y0 m0 d0 w0 n y m d : Int) (hs : mo.length ≤ 100000 ∧ we.length ≤ 100000 ∧ yd.length ≤ 100000 ∧ md.length ≤ 100000 ∧ dy.length ≤ 100000) :
  Tells (days_Plan_startFits.f ((f, iv, ct, un, wkst, en, mo, we, yd, md, dy, ho, mi, se, po, ()), s, (n0, y0, m0, d0, w0, ()), sec, ()) (n, y, m, d, wk n, ())) (stP f mo we yd md dy m0 d0 w0 n m d) := by
 unfold stP
 rw [days_Plan_startFits.f_eq]
 by_cases c : yd ≠ [] ∨ md ≠ [] ∨ dy ≠ []
 ·have hp : (yd.length : Int) + (md.length : Int) + (dy.length : Int) > 0 := by
   rw [ne_len, ne_len, ne_len] at c
   omega
  exact ⟨true, by simp (disch := omega) only [ss, cond_true, cond_false, Option.bind_some], by simp [c]⟩
 ·have hp : ¬ (yd.length : Int) + (md.length : Int) + (dy.length : Int) > 0 := by
   rw [ne_len, ne_len, ne_len] at c
   omega
  by_cases c1 : we = []
  ·subst c1
   have hnil : (([] : List Int).length : Int) = 0 := rfl
   by_cases f1 : f = 1
   ·subst f1
    by_cases dd : d = d0
    ·by_cases mm_ : mo = []
     ·subst mm_
      refine ⟨decide (m = m0), by simp (disch := omega) only [ss, cond_true, cond_false, Option.bind_some, hnil], ?_⟩
      rw [decide_eq_true_iff]
      simp [c, dd]
     ·have hmp : (mo.length : Int) > 0 := ne_len.1 mm_
      exact ⟨true, by simp (disch := omega) only [ss, cond_true, cond_false, Option.bind_some, hnil], by simp [dd, mm_]⟩
    ·exact ⟨false, by simp (disch := omega) only [ss, cond_true, cond_false, Option.bind_some, hnil], by simp [c, dd]⟩
   ·by_cases f2 : f = 2
    ·subst f2
     refine ⟨decide (d = d0), by simp (disch := omega) only [ss, cond_true, cond_false, Option.bind_some, hnil], ?_⟩
     rw [decide_eq_true_iff]
     simp [c]
    ·by_cases f3 : f = 3
     ·subst f3
      refine ⟨decide (wk n = w0), by simp (disch := omega) only [ss, cond_true, cond_false, Option.bind_some, hnil], ?_⟩
      rw [decide_eq_true_iff]
      simp [c]
     ·exact ⟨true, by simp (disch := omega) only [ss, cond_true, cond_false, Option.bind_some, hnil], by simp [f1, f2, f3]⟩
  ·have hwp : (we.length : Int) > 0 := ne_len.1 c1
   refine ⟨decide (wk n = w0), by simp (disch := omega) only [ss, cond_true, cond_false, Option.bind_some], ?_⟩
   rw [decide_eq_true_iff]
   simp [c, c1]
def wkP (n : Int) : Prop := we = [] ∨ ∃ Y k, isWeek n wkst Y k ∧ 1 ≤ Y ∧ Y ≤ 9999 ∧ hasP we k (wks Y wkst)
theorem week_fits (n y m d : Int) (hs : we.length ≤ 100000) (h : isDate n y m d) (hw : 0 ≤ wkst ∧ wkst ≤ 6) :
  Tells (days_weekFits.f (f, iv, ct, un, wkst, en, mo, we, yd, md, dy, ho, mi, se, po, ()) (n, y, m, d, wk n, ())) (wkP wkst we n) := by
 obtain ⟨q1, q2, q3, q4, q5, q6⟩ := date_bd h
 unfold wkP
 rw [days_weekFits.f_eq]
 by_cases c : we = []
 ·subst c
  exact ⟨true, by simp (disch := omega) only [ss, cond_true, cond_false, Option.bind_some, List.length_nil], by simp⟩
 ·have hwp : (we.length : Int) > 0 := ne_len.1 c
  obtain ⟨Y, k, w1_, w2, w3, w4, w5, w6, _⟩ := week_spec n wkst q5 q6 hw.1 hw.2
  have hW := weeks_spec Y wkst
  by_cases cY : 1 ≤ Y ∧ Y ≤ 9999
  ·rw [if_pos ⟨cY, hw⟩] at hW
   have hb := wks_bd Y wkst (by omega)
   obtain ⟨b, h1, h2⟩ := dhas_spec we k (wks Y wkst) (by omega) (by omega) (by omega)
   refine ⟨b, by simp (disch := omega) only [ss, cond_true, cond_false, Option.bind_some, w6, hW, h1], ?_⟩
   rw [h2]
   constructor
   ·exact fun h => .inr ⟨Y, k, w1_, cY.1, cY.2, h⟩
   ·rintro (q | ⟨Y', k', x1, x2, x3, x4⟩)
    ·exact absurd q c
    ·obtain ⟨e1, e2⟩ := week_uniq w2 (by omega) w1_ x1
     rw [e1, e2]
     exact x4
  ·rw [if_neg fun q => cY q.1] at hW
   refine ⟨false, by simp (disch := omega) only [ss, cond_true, cond_false, Option.bind_some, w6, hW], ?_⟩
   simp only [Bool.false_eq_true, false_iff]
   rintro (q | ⟨Y', k', x1, x2, x3, _⟩)
   ·exact c q
   ·obtain ⟨e1, _⟩ := week_uniq w2 (by omega) w1_ x1
    exact cY (by omega)
end
end Go.GV.YtaeejbmbkejjiaaGreatDoor
namespace Go.GV.YtaeejbmbkejjiaaGreatDoor
open Go.Proofs
def shortR (r : Rl) : Prop := short r.2.2.2.2.2.2.1 r.2.2.2.2.2.2.2.1 r.2.2.2.2.2.2.2.2.1 r.2.2.2.2.2.2.2.2.2.1 r.2.2.2.2.2.2.2.2.2.2.1 r.2.2.2.2.2.2.2.2.2.2.2.1 r.2.2.2.2.2.2.2.2.2.2.2.2.1 r.2.2.2.2.2.2.2.2.2.2.2.2.2.1 r.2.2.2.2.2.2.2.2.2.2.2.2.2.2.1
theorem few_step {p : Prop} [Decidable p] {X : Option (Bool × Unit)} {Q : Prop} (h : p → ∃ b, X = some (b, ()) ∧ (b = true → Q)) : ∃ b, (bif decide p then X else some (false, ())) = some (b, ()) ∧ (b = true → Q) := by
 by_cases c : p
 ·rw [dp c]
  exact h c
 ·rw [dn c]
  exact ⟨false, rfl, fun q => by cases q⟩
theorem few_some (r : Rl) : ∃ b, vokref_FewRule.f r = some (b, ()) ∧ (b = true → shortR r) := by
 rw [vokref_FewRule.f_eq]
 refine few_step fun h1 => few_step fun h2 => few_step fun h3 => few_step fun h4 => few_step fun h5 => few_step fun h6 => few_step fun h7 => few_step fun h8 => ⟨_, rfl, fun h9 => ?_⟩
 rw [decide_eq_true_iff] at h9
 unfold shortR short
 omega
theorem may_p {r : Rl} (hs : shortR r) (hM : rule_May.f r = some (true, ())) : mayP r.1 r.2.1 r.2.2.1 r.2.2.2.1 r.2.2.2.2.1 r.2.2.2.2.2.1 r.2.2.2.2.2.2.1 r.2.2.2.2.2.2.2.1 r.2.2.2.2.2.2.2.2.1 r.2.2.2.2.2.2.2.2.2.1 r.2.2.2.2.2.2.2.2.2.2.1 r.2.2.2.2.2.2.2.2.2.2.2.1 r.2.2.2.2.2.2.2.2.2.2.2.2.1 r.2.2.2.2.2.2.2.2.2.2.2.2.2.1 r.2.2.2.2.2.2.2.2.2.2.2.2.2.2.1 := by
 have g := may_gate r.1 r.2.1 r.2.2.1 r.2.2.2.1 r.2.2.2.2.1 r.2.2.2.2.2.1 r.2.2.2.2.2.2.1 r.2.2.2.2.2.2.2.1 r.2.2.2.2.2.2.2.2.1 r.2.2.2.2.2.2.2.2.2.1 r.2.2.2.2.2.2.2.2.2.2.1 r.2.2.2.2.2.2.2.2.2.2.2.1 r.2.2.2.2.2.2.2.2.2.2.2.2.1 r.2.2.2.2.2.2.2.2.2.2.2.2.2.1 r.2.2.2.2.2.2.2.2.2.2.2.2.2.2.1 hs
 refine Classical.byContradiction fun q => ?_
 have h1 : rule_May.f r = some (false, ()) := g.2 q
 rw [hM] at h1
 cases h1
abbrev inT (t : Int) : Prop := -62135596800 ≤ t ∧ t ≤ 253402300799
theorem inT_day {t : Int} (h : inT t) : -719162 ≤ t / 86400 ∧ t / 86400 ≤ 2932896 := by
 unfold inT at h
 omega
theorem make_ok (r : Rl) (s : Int) (hM : rule_May.f r = some (true, ())) (ht : inT s) (y m d : Int) (e : civil_Date.f (s / 86400) = some (y, m, d, 0, ())) :
  days_Make.f r s = some ((r, s, (s / 86400, y, m, d, wk (s / 86400), ()), s % 86400, ()), true, ()) := by
 have hS : stamp_May.f s = some (true, ()) := by rw [(may_mo s).1, dp ht]
 have hD := (mday_spec s (by unfold inT at ht; omega) (by unfold inT at ht; omega)).1
 rw [days_Make.f_eq, hM]
 simp (disch := omega) only [ss, cond_true, cond_false, Option.bind_some, hS, days_Make.l1_eq, hD, of_spec _ _ _ _ e]
theorem make_no (r : Rl) (s : Int) (b : Bool) (hM : rule_May.f r = some (b, ())) (h : ¬ (b = true ∧ inT s)) : days_Make.f r s = some (((0, 0, 0, 0, 0, false, [], [], [], [], [], [], [], [], [], ()), 0, (0, 0, 0, 0, 0, ()), 0, ()), false, ()) := by
 rw [days_Make.f_eq, hM]
 cases b with
 | false => simp (disch := omega) only [ss, cond_true, cond_false, Option.bind_some, days_Make.l1_eq]
 | true =>
  have hS : stamp_May.f s = some (false, ()) := by rw [(may_mo s).1, dn (show ¬ inT s from fun q => h ⟨rfl, q⟩)]
  simp (disch := omega) only [ss, cond_true, cond_false, Option.bind_some, hS, days_Make.l1_eq]
section
variable (f iv ct un wkst : Int) (en : Bool) (mo we yd md : List Int) (dy : List Dy) (ho mi se po : List Int)
def fitP (m0 d0 w0 n y m d : Int) : Prop := (mo = [] ∨ m ∈ mo) ∧ hasP yd (n - fst_ y + 1) (cum y 13) ∧ hasP md d (mlen y m) ∧ wdP f mo dy n y m d ∧ stP f mo we yd md dy m0 d0 w0 n m d ∧ wkP wkst we n
theorem plan_fits (s sec n0 y0 m0 d0 w0 n y m d : Int) (hs : short mo we yd md dy ho mi se po) (hw : 0 ≤ wkst ∧ wkst ≤ 6) (h : isDate n y m d) (e : civil_Date.f n = some (y, m, d, 0, ())) :
  Tells (days_Plan_Fits.f ((f, iv, ct, un, wkst, en, mo, we, yd, md, dy, ho, mi, se, po, ()), s, (n0, y0, m0, d0, w0, ()), sec, ()) n) (fitP f wkst mo we yd md dy m0 d0 w0 n y m d) := by
 obtain ⟨k1, k2, k3, k4, k5, k6, k7, k8, k9⟩ := hs
 obtain ⟨q1, q2, q3, q4, q5, q6⟩ := date_bd h
 obtain ⟨v1, v2, v3, v4⟩ := valid_iff.1 h.1
 have h13 := cum13 y
 have hs13 := fst_step y v1
 have hml := mlen_bd y m
 have t1 := dhas_spec yd (n - fst_ y + 1) (cum y 13) (by omega) (by omega) (by omega)
 have t2 := dhas_spec md d (mlen y m) (by omega) (by omega) (by omega)
 have t3 := wday_fits f iv ct un wkst en mo we yd md dy ho mi se po n y m d ⟨k1, k5⟩ h e
 have t4 := start_fits f iv ct un wkst en mo we yd md dy ho mi se po s sec n0 y0 m0 d0 w0 n y m d ⟨k1, k2, k3, k4, k5⟩
 have t5 := week_fits f iv ct un wkst en mo we yd md dy ho mi se po n y m d k2 h hw
 have tl := tells_last t5
 have ta := tells_and t4 tl
 have tb := tells_and t3 ta
 have hL : Tells (days_Plan_Fits.l2 n ((f, iv, ct, un, wkst, en, mo, we, yd, md, dy, ho, mi, se, po, ()), s, (n0, y0, m0, d0, w0, ()), sec, ()) (n, y, m, d, wk n, ())) (hasP yd (n - fst_ y + 1) (cum y 13) ∧ hasP md d (mlen y m) ∧ wdP f mo dy n y m d ∧ stP f mo we yd md dy m0 d0 w0 n m d ∧ wkP wkst we n) := by
  rw [days_Plan_Fits.l2_eq, yearday_spec n y m d h e]
  simp only [Option.bind_some]
  rw [ylen_spec y (by omega)]
  simp only [Option.bind_some]
  refine tells_and t1 ?_
  rw [length_spec y m (by omega)]
  simp only [Option.bind_some]
  exact tells_and t2 tb
 unfold fitP
 rw [days_Plan_Fits.f_eq, of_spec n y m d e]
 simp only [Option.bind_some, Bool.not_true, cond_false]
 by_cases c : mo = []
 ·subst c
  have hnil : (([] : List Int).length : Int) = 0 := rfl
  simp (disch := omega) only [ss, cond_true, cond_false, Option.bind_some, hnil, days_Plan_Fits.l1_eq]
  exact hL.iff ⟨fun q => ⟨.inl trivial, q⟩, fun q => q.2⟩
 ·have hmp : (mo.length : Int) > 0 := ne_len.1 c
  by_cases cm : m ∈ mo
  ·simp (disch := omega) only [ss, cond_true, cond_false, Option.bind_some, contains_int mo m (by omega), dp cm, days_Plan_Fits.l1_eq]
   exact hL.iff ⟨fun q => ⟨.inr cm, q⟩, fun q => q.2⟩
  ·simp (disch := omega) only [ss, cond_true, cond_false, Option.bind_some, contains_int mo m (by omega), dn cm, days_Plan_Fits.l1_eq]
   exact ⟨false, rfl, by simp [c, cm]⟩
theorem plan_none (s sec n0 y0 m0 d0 w0 n : Int) (h : ¬ (-719162 ≤ n ∧ n ≤ 2932896)) : days_Plan_Fits.f ((f, iv, ct, un, wkst, en, mo, we, yd, md, dy, ho, mi, se, po, ()), s, (n0, y0, m0, d0, w0, ()), sec, ()) n = some (false, ()) := by
 rw [days_Plan_Fits.f_eq, of_none n h]
 simp (disch := omega) only [ss, cond_true, cond_false, Option.bind_some, days_Plan_Fits.l1_eq]
end
end Go.GV.YtaeejbmbkejjiaaGreatDoor
namespace Go.GV.YtaeejbmbkejjiaaGreatDoor
open Go.Proofs
end Go.GV.YtaeejbmbkejjiaaGreatDoor
namespace Go.GV.YtaeejbmbkejjiaaGreatDoor
open Go.Proofs
theorem copy_ints (l : List Int) (h : l.length ≤ 1000000) : vokref_CopyInts.f l = some (l, ()) := by
 have hlim : limit = 17179869184 := rfl
 rw [vokref_CopyInts.f_eq]
 simp (disch := omega) only [ss, cond_true, cond_false, Option.bind_some, List.length_nil, hlim, List.nil_append]
theorem copy_rule (r : Rl) (h : shortR r) : vokref_CopyRule.f r = some (r, ()) := by
 have hlim : limit = 17179869184 := rfl
 unfold shortR short at h
 obtain ⟨h1, h2, h3, h4, h5, h6, h7, h8, h9⟩ := h
 rw [vokref_CopyRule.f_eq, copy_ints _ (by omega), copy_ints _ (by omega), copy_ints _ (by omega), copy_ints _ (by omega), copy_ints _ (by omega), copy_ints _ (by omega), copy_ints _ (by omega), copy_ints _ (by omega)]
 simp (disch := omega) only [ss, cond_true, cond_false, Option.bind_some, List.length_nil, hlim, List.nil_append]
end Go.GV.YtaeejbmbkejjiaaGreatDoor
namespace Go.GV.YtaeejbmbkejjiaaGreatDoor
open Go.Proofs
def Rise (l : List Int) : Prop := l.Pairwise (· < ·)
theorem rise_cons {x : Int} {l : List Int} : Rise (x :: l) ↔ (∀ y, y ∈ l → x < y) ∧ Rise l := List.pairwise_cons
theorem rise_nil : Rise [] := List.Pairwise.nil
theorem rise_app {a b : List Int} : Rise (a ++ b) ↔ Rise a ∧ Rise b ∧ ∀ x, x ∈ a → ∀ y, y ∈ b → x < y := List.pairwise_append
theorem rise_ext : ∀ {a b : List Int}, Rise a → Rise b → (∀ x, x ∈ a ↔ x ∈ b) → a = b
 | [], [], _, _, _ => rfl
 | [], y :: b, _, _, h => absurd ((h y).2 (List.mem_cons_self ..)) (by simp)
 | x :: a, [], _, _, h => absurd ((h x).1 (List.mem_cons_self ..)) (by simp)
 | x :: a, y :: b, ha, hb, h => by
  have pa := rise_cons.1 ha
  have pb := rise_cons.1 hb
  have e : x = y := by
   rcases List.mem_cons.1 ((h x).1 (List.mem_cons_self ..)) with e | e
   ·exact e
   ·rcases List.mem_cons.1 ((h y).2 (List.mem_cons_self ..)) with f | f
    ·exact f.symm
    ·have := pb.1 x e
     have := pa.1 y f
     omega
  subst e
  have : a = b := by
   refine rise_ext pa.2 pb.2 fun z => ⟨fun hz => ?_, fun hz => ?_⟩
   ·rcases List.mem_cons.1 ((h z).1 (List.mem_cons_of_mem _ hz)) with e | e
    ·have := pa.1 z hz
     omega
    ·exact e
   ·rcases List.mem_cons.1 ((h z).2 (List.mem_cons_of_mem _ hz)) with e | e
    ·have := pb.1 z hz
     omega
    ·exact e
  rw [this]
theorem rise_get : ∀ {l : List Int}, Rise l → ∀ {i j : Nat}, i < j → j < l.length → l.getD i 0 < l.getD j 0
 | [], _, _, _, _, h => absurd h (by simp)
 | x :: l, hr, 0, 0, h, _ => absurd h (by omega)
 | x :: l, hr, 0, j + 1, _, h => by
  have hj : j < l.length := by simpa using h
  rw [List.getD_cons_zero, List.getD_cons_succ, getD_eq 0 hj]
  exact (rise_cons.1 hr).1 _ (List.getElem_mem hj)
 | x :: l, hr, i + 1, 0, h, _ => absurd h (by omega)
 | x :: l, hr, i + 1, j + 1, h, h2 => by
  rw [List.getD_cons_succ, List.getD_cons_succ]
  exact rise_get (rise_cons.1 hr).2 (by omega) (by simpa using h2)
theorem rise_idx {l : List Int} (hr : Rise l) {i j : Nat} (hi : i < l.length) (hj : j < l.length) (e : l.getD i 0 = l.getD j 0) : i = j := by
 rcases Nat.lt_trichotomy i j with h | h | h
 ·have := rise_get hr h hj
  omega
 ·exact h
 ·have := rise_get hr h hi
  omega
theorem rise_of : ∀ {l : List Int}, (∀ j, 0 < j → j < l.length → l.getD (j - 1) 0 < l.getD j 0) → Rise l
 | [], _ => rise_nil
 | [x], _ => rise_cons.2 ⟨fun y h => absurd h (by simp), rise_nil⟩
 | x :: y :: l, h => by
  have hr : Rise (y :: l) := rise_of fun j h0 hj => by
   have := h (j + 1) (by omega) (by simpa using hj)
   match j, h0 with
   | j + 1, _ => simpa using this
  have hxy : x < y := by simpa using h 1 (by omega) (by simp)
  refine rise_cons.2 ⟨fun z hz => ?_, hr⟩
  rcases List.mem_cons.1 hz with e | e
  ·omega
  ·have := (rise_cons.1 hr).1 z e
   omega
theorem mem_get {l : List Int} {x : Int} (h : x ∈ l) : ∃ i, i < l.length ∧ l.getD i 0 = x := by
 obtain ⟨i, hi, e⟩ := List.mem_iff_getElem.1 h
 exact ⟨i, hi, by rw [getD_eq 0 hi, e]⟩
theorem get_mem {l : List Int} {i : Nat} (h : i < l.length) : l.getD i 0 ∈ l := by
 rw [getD_eq 0 h]
 exact List.getElem_mem h
theorem rise_take {l : List Int} (h : Rise l) (n : Nat) : Rise (l.take n) := List.Pairwise.sublist (List.take_sublist n l) h
def tod (h m c : List Int) : List Int := h.flatMap fun a => m.flatMap fun b => c.map fun s => 3600 * a + 60 * b + s
def inR (l : List Int) (hi : Int) : Prop := ∀ x, x ∈ l → 0 ≤ x ∧ x ≤ hi
theorem mem_tod {h m c : List Int} (hm : inR m 59) (hc : inR c 59) (x : Int) : x ∈ tod h m c ↔ x / 3600 ∈ h ∧ x / 60 % 60 ∈ m ∧ x % 60 ∈ c := by
 unfold tod
 rw [List.mem_flatMap]
 constructor
 ·rintro ⟨a, ha, hx⟩
  obtain ⟨b, hb, hx⟩ := List.mem_flatMap.1 hx
  obtain ⟨s, hs, e⟩ := List.mem_map.1 hx
  have := hm b hb
  have := hc s hs
  have e1 : x / 3600 = a := by omega
  have e2 : x / 60 % 60 = b := by omega
  have e3 : x % 60 = s := by omega
  rw [e1, e2, e3]
  exact ⟨ha, hb, hs⟩
 ·rintro ⟨h1, h2, h3⟩
  exact ⟨_, h1, List.mem_flatMap.2 ⟨_, h2, List.mem_map.2 ⟨_, h3, by omega⟩⟩⟩
theorem rise_map {l : List Int} (h : Rise l) (f : Int → Int) (hf : ∀ x y, x < y → f x < f y) : Rise (l.map f) := by
 unfold Rise
 rw [List.pairwise_map]
 exact List.Pairwise.imp (fun {a b} h => hf a b h) h
theorem rise_flat : ∀ {l : List Int} {f : Int → List Int}, Rise l → (∀ a, a ∈ l → Rise (f a)) → (∀ a b, a ∈ l → b ∈ l → a < b → ∀ x, x ∈ f a → ∀ y, y ∈ f b → x < y) → Rise (l.flatMap f)
 | [], _, _, _, _ => rise_nil
 | a :: l, f, h, h1, h2 => by
  rw [List.flatMap_cons, rise_app]
  have p := rise_cons.1 h
  refine ⟨h1 a (List.mem_cons_self ..), rise_flat p.2 (fun b hb => h1 b (List.mem_cons_of_mem _ hb)) (fun b b' hb hb' => h2 b b' (List.mem_cons_of_mem _ hb) (List.mem_cons_of_mem _ hb')), fun x hx y hy => ?_⟩
  obtain ⟨b, hb, hy⟩ := List.mem_flatMap.1 hy
  exact h2 a b (List.mem_cons_self ..) (List.mem_cons_of_mem _ hb) (p.1 b hb) x hx y hy
theorem rise_tod {h m c : List Int} (rh : Rise h) (rm : Rise m) (rc : Rise c) (hm : inR m 59) (hc : inR c 59) : Rise (tod h m c) := by
 refine rise_flat rh (fun a ha => rise_flat rm (fun b hb => rise_map rc _ fun x y h => by omega) ?_) ?_
 ·intro b b' hb hb' hlt x hx y hy
  obtain ⟨s, hs, e⟩ := List.mem_map.1 hx
  obtain ⟨s', hs', e'⟩ := List.mem_map.1 hy
  have := hc s hs
  have := hc s' hs'
  omega
 ·intro b b' hb hb' hlt x hx y hy
  obtain ⟨d, hd, hx⟩ := List.mem_flatMap.1 hx
  obtain ⟨d', hd', hy⟩ := List.mem_flatMap.1 hy
  obtain ⟨s, hs, e⟩ := List.mem_map.1 hx
  obtain ⟨s', hs', e'⟩ := List.mem_map.1 hy
  have := hc s hs
  have := hc s' hs'
  have := hm d hd
  have := hm d' hd'
  omega
theorem tod_bd {h m c : List Int} (hh : inR h 23) (hm : inR m 59) (hc : inR c 59) : inR (tod h m c) 86399 := by
 intro x hx
 have ⟨h1, h2, h3⟩ := (mem_tod hm hc x).1 hx
 have := hh _ h1
 omega
def dayL (h m c : List Int) (lo hi d : Int) : List Int := ((tod h m c).filter fun x => decide (lo ≤ x) && decide (x < hi)).map (fun x => d * 86400 + x)
theorem mem_dayL {h m c : List Int} (hh : inR h 23) (hm : inR m 59) (hc : inR c 59) (lo hi d x : Int) :
  x ∈ dayL h m c lo hi d ↔ x / 86400 = d ∧ x % 86400 ∈ tod h m c ∧ lo ≤ x % 86400 ∧ x % 86400 < hi := by
 unfold dayL
 rw [List.mem_map]
 constructor
 ·rintro ⟨z, hz, e⟩
  have ⟨h1, h2⟩ := List.mem_filter.1 hz
  have := tod_bd hh hm hc z h1
  have e1 : x % 86400 = z := by omega
  rw [e1]
  simp only [Bool.and_eq_true, decide_eq_true_eq] at h2
  exact ⟨by omega, h1, h2.1, h2.2⟩
 ·rintro ⟨h1, h2, h3, h4⟩
  exact ⟨x % 86400, List.mem_filter.2 ⟨h2, by simp [h3, h4]⟩, by omega⟩
theorem rise_dayL {h m c : List Int} (rh : Rise h) (rm : Rise m) (rc : Rise c) (hm : inR m 59) (hc : inR c 59) (lo hi d : Int) : Rise (dayL h m c lo hi d) := by
 refine rise_map ?_ _ fun x y h => by omega
 exact List.Pairwise.sublist List.filter_sublist (rise_tod rh rm rc hm hc)
def setF (fits : Int → Bool) (h m c : List Int) (lo hi : Int) : Nat → Int → List Int
 | 0, _ => []
 | k + 1, d => (if fits d = true then dayL h m c lo hi d else []) ++ setF fits h m c lo hi k (d + 1)
theorem mem_setF {fits : Int → Bool} {h m c : List Int} (hh : inR h 23) (hm : inR m 59) (hc : inR c 59) (lo hi x : Int) : ∀ (k : Nat) (d : Int),
  x ∈ setF fits h m c lo hi k d ↔ d ≤ x / 86400 ∧ x / 86400 < d + k ∧ fits (x / 86400) = true ∧ x % 86400 ∈ tod h m c ∧ lo ≤ x % 86400 ∧ x % 86400 < hi
 | 0, d => by
  constructor
  ·intro hx
   exact absurd hx (by simp [setF])
  ·rintro ⟨h1, h2, _⟩
   omega
 | k + 1, d => by
  unfold setF
  rw [List.mem_append, mem_setF hh hm hc lo hi x k (d + 1)]
  constructor
  ·rintro (h1 | ⟨h1, h2, h3⟩)
   ·by_cases hf : fits d = true
    ·rw [if_pos hf, mem_dayL hh hm hc] at h1
     obtain ⟨e, h1⟩ := h1
     rw [e]
     exact ⟨by omega, by omega, hf, h1⟩
    ·rw [if_neg hf] at h1
     exact absurd h1 (by simp)
   ·exact ⟨by omega, by omega, h3⟩
  ·rintro ⟨h1, h2, h3, h4⟩
   by_cases e : x / 86400 = d
   ·rw [e] at h3
    rw [if_pos h3, mem_dayL hh hm hc]
    exact Or.inl ⟨e, h4⟩
   ·exact Or.inr ⟨by omega, by omega, h3, h4⟩
theorem rise_setF {fits : Int → Bool} {h m c : List Int} (rh : Rise h) (rm : Rise m) (rc : Rise c) (hh : inR h 23) (hm : inR m 59) (hc : inR c 59) (lo hi : Int) : ∀ (k : Nat) (d : Int),
  Rise (setF fits h m c lo hi k d)
 | 0, _ => rise_nil
 | k + 1, d => by
  unfold setF
  rw [rise_app]
  refine ⟨?_, rise_setF rh rm rc hh hm hc lo hi k (d + 1), ?_⟩
  ·by_cases hf : fits d = true
   ·rw [if_pos hf]
    exact rise_dayL rh rm rc hm hc lo hi d
   ·rw [if_neg hf]
    exact rise_nil
  ·intro x hx y hy
   have hy := (mem_setF hh hm hc lo hi y k (d + 1)).1 hy
   by_cases hf : fits d = true
   ·rw [if_pos hf, mem_dayL hh hm hc] at hx
    omega
   ·rw [if_neg hf] at hx
    exact absurd hx (by simp)
end Go.GV.YtaeejbmbkejjiaaGreatDoor
namespace Go.GV.YtaeejbmbkejjiaaGreatDoor
open Go.Proofs
def upTo (n : Nat) : List Int := (List.range n).map fun (j : Nat) => (j : Int)
theorem upTo_succ (n : Nat) : upTo (n + 1) = upTo n ++ [(n : Int)] := by unfold upTo; rw [List.range_succ, List.map_append]; rfl
theorem upTo_len (n : Nat) : (upTo n).length = n := by unfold upTo; simp
theorem mem_upTo {n : Nat} {x : Int} : x ∈ upTo n ↔ 0 ≤ x ∧ x < n := by
 unfold upTo
 rw [List.mem_map]
 constructor
 ·rintro ⟨j, hj, e⟩
  have := List.mem_range.1 hj
  omega
 ·rintro ⟨h0, h1⟩
  exact ⟨x.toNat, List.mem_range.2 (by omega), by omega⟩
theorem rise_upTo : ∀ n, Rise (upTo n)
 | 0 => rise_nil
 | n + 1 => by
  rw [upTo_succ, rise_app]
  refine ⟨rise_upTo n, rise_cons.2 ⟨fun y h => absurd h (by simp), rise_nil⟩, fun x hx y hy => ?_⟩
  have := mem_upTo.1 hx
  have := List.mem_singleton.1 hy
  omega
theorem some_l1 (all : Nat) (h : all ≤ 1000) : ∀ (k i : Nat), all - i = k → i ≤ all → days_some.l1 (all : Int) (i : Int) (upTo i) = some (upTo all, ()) := by
 have hlim : limit = 17179869184 := rfl
 intro k
 induction k with
 | zero =>
  intro i hk hil
  have e : i = all := by omega
  subst e
  rw [days_some.l1_eq]
  simp (disch := omega) only [ss, cond_true, cond_false, Option.bind_some]
 | succ k ih =>
  intro i hk hil
  have hlen := upTo_len i
  have := ih (i + 1) (by omega) (by omega)
  rw [upTo_succ, Int.natCast_add, Int.natCast_one] at this
  rw [days_some.l1_eq]
  simp (disch := omega) only [ss, cond_true, cond_false, Option.bind_some, hlen, List.length_singleton, hlim]
  exact this
theorem vupTo_l1 (all : Nat) (h : all ≤ 1000) : ∀ (k i : Nat), all - i = k → i ≤ all → vokref6_upTo.l1 (all : Int) (i : Int) (upTo i) = some (upTo all, ()) := by
 have hlim : limit = 17179869184 := rfl
 intro k
 induction k with
 | zero =>
  intro i hk hil
  have e : i = all := by omega
  subst e
  rw [vokref6_upTo.l1_eq]
  simp (disch := omega) only [ss, cond_true, cond_false, Option.bind_some]
 | succ k ih =>
  intro i hk hil
  have hlen := upTo_len i
  have := ih (i + 1) (by omega) (by omega)
  rw [upTo_succ, Int.natCast_add, Int.natCast_one] at this
  rw [vokref6_upTo.l1_eq]
  simp (disch := omega) only [ss, cond_true, cond_false, Option.bind_some, hlen, List.length_singleton, hlim]
  exact this
def tms (l : List Int) (single : Bool) (n : Int) (all : Nat) : List Int := if l = [] then (if single = true then [n] else upTo all) else l
theorem some_val (l : List Int) (single : Bool) (n : Int) (all : Nat) (hl : l.length ≤ 1000000) (hb : all ≤ 100) :
  days_some.f l single n (all : Int) = some (tms l single n all, ()) ∧ vokref6_times.f l single n (all : Int) = some (tms l single n all, ()) := by
 have hlim : limit = 17179869184 := rfl
 unfold tms
 rw [days_some.f_eq, vokref6_times.f_eq]
 by_cases c : l = []
 ·subst c
  have hnil : (([] : List Int).length : Int) = 0 := rfl
  rw [if_pos rfl]
  cases single with
  | true =>
   rw [if_pos rfl]
   simp (disch := omega) only [ss, cond_true, cond_false, Option.bind_some, hnil]
   exact ⟨trivial, trivial⟩
  | false =>
   have hl := some_l1 all (by omega) all 0 (by omega) (Nat.zero_le _)
   have hv := vupTo_l1 all (by omega) all 0 (by omega) (Nat.zero_le _)
   rw [Int.natCast_zero] at hl hv
   rw [if_neg (by simp)]
   simp (disch := omega) only [ss, cond_true, cond_false, Option.bind_some, hnil, vokref6_upTo.f_eq]
   have e : upTo 0 = [] := rfl
   rw [e] at hl hv
   rw [hl, hv]
   exact ⟨rfl, rfl⟩
 ·have hp : (l.length : Int) > 0 := ne_len.1 c
  have hC : slices_Clone_int_int.f l = some (l, ()) := by
   rw [slices_Clone_int_int.f_sem]
   show (bif decide (l.length ≤ limit) then some (l, ()) else none) = _
   simp (disch := omega) only [ss, cond_true, cond_false, Option.bind_some, hlim]
  rw [if_neg c]
  simp (disch := omega) only [ss, cond_true, cond_false, Option.bind_some, hC, copy_ints l hl]
  exact ⟨trivial, trivial⟩
def okT (x : List Int) (hi : Int) : Prop := Rise x ∧ inR x hi ∧ x.length ≤ 60
theorem rise_wi {l : List Int} {lo hi : Int} {z : Bool} (h : wi l lo hi z) : Rise l := rise_of fun j h0 hj => (h.1 j hj).2 h0
theorem tms_ok (l : List Int) (single : Bool) (n hi : Int) (all : Nat) (hw : wi l 0 hi true) (hn : 0 ≤ n ∧ n ≤ hi) (ha : (all : Int) = hi + 1) (hb : all ≤ 60) : okT (tms l single n all) hi := by
 unfold tms
 by_cases c : l = []
 ·rw [if_pos c]
  cases single with
  | true =>
   rw [if_pos rfl]
   refine ⟨rise_cons.2 ⟨fun y h => absurd h (by simp), rise_nil⟩, fun x hx => ?_, by simp⟩
   have := List.mem_singleton.1 hx
   omega
  | false =>
   rw [if_neg (by simp)]
   refine ⟨rise_upTo all, fun x hx => ?_, by rw [upTo_len]; exact hb⟩
   have := mem_upTo.1 hx
   omega
 ·rw [if_neg c]
  refine ⟨rise_wi hw, fun x hx => ?_, hw.2⟩
  obtain ⟨i, hi1, e⟩ := mem_get hx
  have := (hw.1 i hi1).1
  unfold okI at this
  omega
theorem cost_some (r : Rl) (s n : Int) (hr : shortR r) : ∃ k, vokref6_Cost.f r s n = some (k, ()) := by
 obtain ⟨b, hb⟩ := may_some r hr
 have hV := may_same r hr
 rw [hb] at hV
 have hT := (may_mo s).2
 have hlast : ∀ x : Int, ∃ k, vokref6_Cost.l2 n x = some (k, ()) := fun x => ⟨_, by rw [vokref6_Cost.l2_eq]⟩
 have hl1 : ∀ (x : Int) (c : Bool), ∃ k, vokref6_Cost.l1 n x c = some (k, ()) := fun x c => by
  rw [vokref6_Cost.l1_eq]
  cases c with
  | true => rw [cond_true]; exact hlast _
  | false => rw [cond_false]; exact hlast _
 have hfin : ∀ (t : List Int × List Int × List Int × Unit), vokref6_Times.f r s = some t → ∃ k, vokref6_Cost.f r s n = some (k, ()) := fun t ht => by
  rw [vokref6_Cost.f_eq, ht, Option.bind_some]
  by_cases c : (r.2.2.2.2.2.2.2.2.2.2.2.2.2.2.1.length : Int) > 0
  ·rw [dp c, cond_true]
   exact hl1 _ _
  ·rw [dn c, cond_false]
   exact hl1 _ _
 have hright : vokref6_right.f r s = some (b && decide (-62135596800 ≤ s ∧ s ≤ 253402300799), ()) := by
  rw [vokref6_right.f_eq, ← hV, hT]
  cases b <;> rfl
 by_cases c : b = true ∧ inT s
 ·obtain ⟨rfl, ht⟩ := c
  have hD := (mday_spec s (by unfold inT at ht; omega) (by unfold inT at ht; omega)).2
  unfold shortR short at hr
  obtain ⟨_, _, _, _, _, h6, h7, h8, _⟩ := hr
  have t1 : ∀ sg n, vokref6_times.f r.2.2.2.2.2.2.2.2.2.2.2.1 sg n 24 = some (tms r.2.2.2.2.2.2.2.2.2.2.2.1 sg n 24, ()) := fun sg n => (some_val _ sg n 24 (by omega) (by omega)).2
  have t2 : ∀ sg n, vokref6_times.f r.2.2.2.2.2.2.2.2.2.2.2.2.1 sg n 60 = some (tms r.2.2.2.2.2.2.2.2.2.2.2.2.1 sg n 60, ()) := fun sg n => (some_val _ sg n 60 (by omega) (by omega)).2
  have t3 : ∀ sg n, vokref6_times.f r.2.2.2.2.2.2.2.2.2.2.2.2.2.1 sg n 60 = some (tms r.2.2.2.2.2.2.2.2.2.2.2.2.2.1 sg n 60, ()) := fun sg n => (some_val _ sg n 60 (by omega) (by omega)).2
  rw [dp ht] at hright
  have hX : ∃ t, vokref6_Times.f r s = some t := by
   rw [vokref6_Times.f_eq, hright]
   simp (disch := omega) only [ss, cond_true, cond_false, Option.bind_some, hD, t1, t2, t3]
   exact ⟨_, rfl⟩
  obtain ⟨t, hX⟩ := hX
  exact hfin t hX
 ·have e : (b && decide (-62135596800 ≤ s ∧ s ≤ 253402300799)) = false := by
   cases b with
   | false => rfl
   | true => rw [dn (fun q => c ⟨rfl, q⟩)]; rfl
  rw [e] at hright
  refine hfin ([], [], [], ()) ?_
  rw [vokref6_Times.f_eq, hright]
  simp (disch := omega) only [ss, cond_true, cond_false, Option.bind_some]
end Go.GV.YtaeejbmbkejjiaaGreatDoor
namespace Go.GV.YtaeejbmbkejjiaaGreatDoor
open Go.Proofs
def isNum (f w : Int) (we : List Int) (n k : Int) : Prop :=
 (f = 1 ∧ we = [] ∧ ∃ m d, isDate n k m d) ∨ (f = 1 ∧ we ≠ [] ∧ 0 ≤ k ∧ ∃ j, isWeek n w k j) ∨ (f = 2 ∧ ∃ y m d, isDate n y m d ∧ k = 12 * y + m) ∨ (f = 3 ∧ k = (n + 3 - w) / 7) ∨ (f = 4 ∧ k = n)
def isPer (f w : Int) (we : List Int) (t k : Int) : Prop := (f ≤ 4 ∧ isNum f w we (t / 86400) k) ∨ (f = 5 ∧ k = t / 3600) ∨ (f = 6 ∧ k = t / 60) ∨ (f = 7 ∧ k = t)
def off (f w : Int) : Int := if f = 3 then (if w < 3 then 2932895 else 2932896) else 0
theorem down_spec' (t k : Int) (h : inT t) (hk : 0 < k) (hk2 : k ≤ 3600) : days_down.f t k = some (t / k, ()) ∧ True := by
 obtain ⟨e1, e2⟩ := tdm t k hk
 have b1 := Int.emod_nonneg t (show k ≠ 0 by omega)
 have b2 := Int.emod_lt_of_pos t hk
 have hq := Int.emod_add_mul_ediv t k
 unfold inT at h
 have b3 : t / k ≤ 253402300799 := by
  have := Int.ediv_le_ediv hk h.2
  have := Int.ediv_le_self k (show (0 : Int) ≤ 253402300799 by omega)
  omega
 have b4 : -62135596801 ≤ t / k := by
  have h5 := Int.ediv_le_ediv hk h.1
  have h6 : -62135596801 ≤ -62135596800 / k := by
   refine Int.le_ediv_of_mul_le hk ?_
   have : 1 * 62135596801 ≤ k * 62135596801 := Int.mul_le_mul_of_nonneg_right (by omega) (by omega)
   omega
  omega
 constructor
 ·rw [days_down.f_eq]
  by_cases c : t < 0
  ·have hd : (0 - t + k - 1) / k = -(t / k) := by
    by_cases hz : t % k = 0
    ·have : 0 - t + k - 1 = (k - 1) + k * (-(t / k)) := by rw [Int.mul_neg]; omega
     rw [this, Int.add_mul_ediv_left _ _ (by omega), Int.ediv_eq_zero_of_lt (by omega) (by omega)]
     omega
    ·have : 0 - t + k - 1 = (k - t % k - 1) + k * (-(t / k)) := by rw [Int.mul_neg]; omega
     rw [this, Int.add_mul_ediv_left _ _ (by omega), Int.ediv_eq_zero_of_lt (by omega) (by omega)]
     omega
   have hk0 : ¬ k = 0 := by omega
   have e3 : 0 - -(t / k) = t / k := by omega
   simp (disch := omega) only [ss, cond_true, cond_false, Option.bind_some, tdn (show (0 : Int) ≤ 0 - t + k - 1 by omega), hd, e3]
  ·simp (disch := omega) only [ss, cond_true, cond_false, Option.bind_some, tdn (show (0 : Int) ≤ t by omega)]
 ·trivial
section
variable (f iv ct un wkst : Int) (en : Bool) (mo we yd md : List Int) (dy : List Dy) (ho mi se po : List Int)
theorem num_both (t : Int) (ht : inT t) (hf : 1 ≤ f ∧ f ≤ 7) (hw : 0 ≤ wkst ∧ wkst ≤ 6) (hl : we.length ≤ 100000) :
  ∃ k, isPer f wkst we t k ∧ (-300000000000 ≤ k ∧ k ≤ 300000000000) ∧ days_number.f (f, iv, ct, un, wkst, en, mo, we, yd, md, dy, ho, mi, se, po, ()) t = some (k + off f wkst, ()) ∧ True := by
 have hb := inT_day ht
 obtain ⟨y, m, d, hd, e, e'⟩ := date_spec (t / 86400) hb.1 hb.2
 obtain ⟨hD, hV⟩ := mday_spec t (by unfold inT at ht; omega) (by unfold inT at ht; omega)
 obtain ⟨q1, q2, q3, q4, _⟩ := date_bd hd
 obtain ⟨v1, v2, v3, v4⟩ := valid_iff.1 hd.1
 have hof := of_spec (t / 86400) y m d e
 rw [days_number.f_eq, hD]
 simp only [Option.bind_some]
 rw [hof]
 simp only [Option.bind_some]
 by_cases f1 : f = 1
 ·subst f1
  have ho : off 1 wkst = 0 := rfl
  by_cases c : we = []
  ·subst c
   have hnil : (([] : List Int).length : Int) = 0 := rfl
   refine ⟨y, .inl ⟨by omega, .inl ⟨rfl, rfl, m, d, hd⟩⟩, by omega, ?_, ?_⟩
   ·rw [ho, Int.add_zero]
    simp (disch := omega) only [ss, cond_true, cond_false, Option.bind_some, days_year.f_eq, hnil]
   ·trivial
  ·have hp := ne_len.1 c
   obtain ⟨Y, K, h1, h2, h3, h4, h5, h6, h7⟩ := week_spec (t / 86400) wkst hb.1 hb.2 hw.1 hw.2
   refine ⟨Y, .inl ⟨by omega, .inr (.inl ⟨rfl, c, h2, K, h1⟩)⟩, by omega, ?_, ?_⟩
   ·rw [ho, Int.add_zero]
    simp (disch := omega) only [ss, cond_true, cond_false, Option.bind_some, days_year.f_eq, h6]
   ·trivial
 ·by_cases f2 : f = 2
  ·subst f2
   have ho : off 2 wkst = 0 := rfl
   refine ⟨12 * y + m, .inl ⟨by omega, .inr (.inr (.inl ⟨rfl, y, m, d, hd, rfl⟩))⟩, by omega, ?_, ?_⟩
   ·rw [ho, Int.add_zero]
    simp (disch := omega) only [ss, cond_true, cond_false, Option.bind_some]
   ·trivial
  ·by_cases f3 : f = 3
   ·subst f3
    have hk := wk_bd (t / 86400)
    have hm : Int.tmod (wk (t / 86400) - wkst + 7) 7 = (t / 86400 + 3 - wkst) % 7 := by
     rw [tmn (by omega)]
     unfold wk
     omega
    have hb7 : Int.tdiv (t / 86400 - (t / 86400 + 3 - wkst) % 7 + 20530272) 7 = (t / 86400 + 3 - wkst) / 7 + off 3 wkst := by
     rw [tdn (by omega)]
     unfold off
     rw [if_pos rfl]
     split <;> omega
    have ho : off 3 wkst = 2932895 ∨ off 3 wkst = 2932896 := by unfold off; rw [if_pos rfl]; split <;> simp
    refine ⟨(t / 86400 + 3 - wkst) / 7, .inl ⟨by omega, .inr (.inr (.inr (.inl ⟨rfl, rfl⟩)))⟩, by omega, ?_, ?_⟩
    ·rw [days_begin.f_eq, weekday_spec]
     simp (disch := omega) only [ss, cond_true, cond_false, Option.bind_some, hm, hb7]
    ·trivial
   ·have ho : off f wkst = 0 := by unfold off; rw [if_neg f3]
    rw [ho]
    by_cases f4 : f = 4
    ·subst f4
     refine ⟨t / 86400, .inl ⟨by omega, .inr (.inr (.inr (.inr ⟨rfl, rfl⟩)))⟩, by omega, ?_, ?_⟩
     ·rw [Int.add_zero]
      simp (disch := omega) only [ss, cond_true, cond_false, Option.bind_some]
     ·trivial
    ·by_cases f5 : f = 5
     ·subst f5
      obtain ⟨g1, g2⟩ := down_spec' t 3600 ht (by omega) (by omega)
      refine ⟨t / 3600, .inr (.inl ⟨rfl, rfl⟩), by unfold inT at ht; omega, ?_, ?_⟩
      ·rw [Int.add_zero]
       simp (disch := omega) only [ss, cond_true, cond_false, Option.bind_some, g1]
      ·trivial
     ·by_cases f6 : f = 6
      ·subst f6
       obtain ⟨g1, g2⟩ := down_spec' t 60 ht (by omega) (by omega)
       refine ⟨t / 60, .inr (.inr (.inl ⟨rfl, rfl⟩)), by unfold inT at ht; omega, ?_, ?_⟩
       ·rw [Int.add_zero]
        simp (disch := omega) only [ss, cond_true, cond_false, Option.bind_some, g1]
       ·trivial
      ·have f7 : f = 7 := by omega
       subst f7
       refine ⟨t, .inr (.inr (.inr ⟨rfl, rfl⟩)), by unfold inT at ht; omega, ?_, ?_⟩
       ·rw [Int.add_zero]
        simp (disch := omega) only [ss, cond_true, cond_false, Option.bind_some]
       ·trivial
end
theorem year_uniq {n y y' : Int} (h0 : 1 ≤ y) (h1 : 1 ≤ y') (a1 : fst_ y ≤ n) (a2 : n < fst_ (y + 1)) (b1 : fst_ y' ≤ n) (b2 : n < fst_ (y' + 1)) : y = y' := by
 rcases Int.lt_trichotomy y y' with c | c | c
 ·have := fst_mono' (a := y + 1) (b := y') (by omega) (by omega)
  omega
 ·exact c
 ·have := fst_mono' (a := y' + 1) (b := y) (by omega) (by omega)
  omega
theorem num_mono {f w : Int} {we : List Int} {n n' k k' : Int} (h : isNum f w we n k) (g : isNum f w we n' k') (hn : n ≤ n') : k ≤ k' := by
 rcases h with ⟨f1, e1, m, d, h⟩ | ⟨f1, e1, h0, j, h⟩ | ⟨f1, y, m, d, h, rfl⟩ | ⟨f1, rfl⟩ | ⟨f1, rfl⟩ <;>
  rcases g with ⟨f2, e2, m', d', g⟩ | ⟨f2, e2, g0, j', g⟩ | ⟨f2, y', m', d', g, rfl⟩ | ⟨f2, rfl⟩ | ⟨f2, rfl⟩ <;> first | omega | (exact absurd e1 e2) | (exact absurd e2 e1) | skip
 ·obtain ⟨a1, a2, _⟩ := date_bd h
  obtain ⟨b1, b2, _⟩ := date_bd g
  obtain ⟨v1, _⟩ := valid_iff.1 h.1
  obtain ⟨v2, _⟩ := valid_iff.1 g.1
  refine Int.not_lt.1 fun c => ?_
  have := fst_mono' (a := k' + 1) (b := k) (by omega) (by omega)
  omega
 ·refine Int.not_lt.1 fun c => ?_
  have := w1_mono (a := k' + 1) (b := k) (w := w) (by omega) (by omega)
  obtain ⟨a1, a2, _⟩ := h
  obtain ⟨b1, b2, _⟩ := g
  omega
 ·obtain ⟨a1, a2, a3, a4, _⟩ := date_bd h
  obtain ⟨b1, b2, b3, b4, _⟩ := date_bd g
  obtain ⟨v1, v1', v1'', v1d⟩ := valid_iff.1 h.1
  obtain ⟨v2, v2', v2'', v2d⟩ := valid_iff.1 g.1
  have h2 := h.2
  have g2 := g.2
  rcases Int.lt_trichotomy y y' with c | c | c
  ·omega
  ·subst c
   refine Int.not_lt.1 fun c => ?_
   have cs := cum_succ y m' b3 b4
   have := cum_mono y (a := m' + 1) (b := m) (by omega) (by omega) (by omega)
   omega
  ·have := fst_mono' (a := y' + 1) (b := y) (by omega) (by omega)
   omega
theorem per_mono {f w : Int} {we : List Int} {t t' k k' : Int} (h : isPer f w we t k) (g : isPer f w we t' k') (ht : t ≤ t') : k ≤ k' := by
 rcases h with ⟨a, h⟩ | ⟨a, rfl⟩ | ⟨a, rfl⟩ | ⟨a, rfl⟩ <;> rcases g with ⟨b, g⟩ | ⟨b, rfl⟩ | ⟨b, rfl⟩ | ⟨b, rfl⟩ <;> first | omega | skip
 exact num_mono h g (by omega)
end Go.GV.YtaeejbmbkejjiaaGreatDoor
namespace Go.GV.YtaeejbmbkejjiaaGreatDoor
open Go.Proofs
def isIv (f w : Int) (we : List Int) (n A B : Int) : Prop :=
 (f = 1 ∧ we = [] ∧ ∃ y, 1 ≤ y ∧ y ≤ 9999 ∧ fst_ y ≤ n ∧ n < fst_ (y + 1) ∧ A = fst_ y ∧ B = fst_ (y + 1) - 1) ∨
 (f = 1 ∧ we ≠ [] ∧ ∃ Y, 0 ≤ Y ∧ Y ≤ 10000 ∧ w1 Y w ≤ n ∧ n < w1 (Y + 1) w ∧ A = (if w1 Y w < -719162 then -719162 else w1 Y w) ∧ B = (if w1 (Y + 1) w - 1 > 2932896 then 2932896 else w1 (Y + 1) w - 1)) ∨
 (f = 2 ∧ ∃ y m, 1 ≤ y ∧ y ≤ 9999 ∧ 1 ≤ m ∧ m ≤ 12 ∧ fst_ y + cum y m ≤ n ∧ n < fst_ y + cum y (m + 1) ∧ A = fst_ y + cum y m ∧ B = fst_ y + cum y (m + 1) - 1) ∨
 (f = 3 ∧ A = (if n - (n + 3 - w) % 7 < -719162 then -719162 else n - (n + 3 - w) % 7) ∧ B = (if n - (n + 3 - w) % 7 + 6 > 2932896 then 2932896 else n - (n + 3 - w) % 7 + 6)) ∨
 (f = 4 ∧ A = n ∧ B = n)
theorem iv_bd {f w : Int} {we : List Int} {n A B : Int} (h : isIv f w we n A B) (hn : -719162 ≤ n ∧ n ≤ 2932896) : A ≤ n ∧ n ≤ B ∧ -719162 ≤ A ∧ B ≤ 2932896 := by
 rcases h with ⟨_, _, y, h1, h2, h3, h4, rfl, rfl⟩ | ⟨_, _, Y, h1, h2, h3, h4, rfl, rfl⟩ | ⟨_, y, m, h1, h2, h3, h4, h5, h6, rfl, rfl⟩ | ⟨_, rfl, rfl⟩ | ⟨_, rfl, rfl⟩
 ·have a := fst_mono' (a := 1) (b := y) (by omega) h1
  have b := fst_mono' (a := y + 1) (b := 10000) (by omega) (by omega)
  rw [fst_1] at a
  rw [fst_10000] at b
  omega
 ·split <;> split <;> omega
 ·have a := fst_mono' (a := 1) (b := y) (by omega) h1
  have b := fst_mono' (a := y + 1) (b := 10000) (by omega) (by omega)
  have c := fst_step y h1
  have d := cum_mono y (a := m + 1) (b := 13) (by omega) (by omega) (by omega)
  have e := cum_bd y m
  rw [fst_1] at a
  rw [fst_10000] at b
  omega
 ·split <;> split <;> omega
 ·omega
theorem iv_num {f w : Int} {we : List Int} {n k A B x k' : Int} (h : isIv f w we n A B) (hn : isNum f w we n k) (hx : isNum f w we x k') (hr : -719162 ≤ x ∧ x ≤ 2932896) :
  (A ≤ x ∧ x ≤ B → k' = k) ∧ (x = A - 1 → k' = k - 1) ∧ (x = B + 1 → k' = k + 1) := by
 rcases h with ⟨f1, e1, y, h1, h2, h3, h4, rfl, rfl⟩ | ⟨f1, e1, Y, h1, h2, h3, h4, hA, hB⟩ | ⟨f1, y, m, h1, h2, h3, h4, h5, h6, rfl, rfl⟩ | ⟨f1, hA, hB⟩ | ⟨f1, rfl, rfl⟩ <;>
  rcases hn with ⟨f2, e2, m1, d1, g⟩ | ⟨f2, e2, g0, j1, g⟩ | ⟨f2, y1, m1, d1, g, rfl⟩ | ⟨f2, rfl⟩ | ⟨f2, rfl⟩ <;> first | omega | (exact absurd e1 e2) | (exact absurd e2 e1) | skip <;>
  rcases hx with ⟨f3, e3, m2, d2, q⟩ | ⟨f3, e3, q0, j2, q⟩ | ⟨f3, y2, m2, d2, q, rfl⟩ | ⟨f3, rfl⟩ | ⟨f3, rfl⟩ <;> first | omega | (exact absurd e1 e3) | (exact absurd e3 e1) | skip
 ·-- years
  obtain ⟨a1, a2, _⟩ := date_bd g
  obtain ⟨b1, b2, _⟩ := date_bd q
  obtain ⟨v1, v1', _⟩ := valid_iff.1 g.1
  obtain ⟨v2, v2', _⟩ := valid_iff.1 q.1
  have ek : k = y := year_uniq v1 h1 a1 a2 h3 h4
  subst ek
  refine ⟨fun r => year_uniq v2 v1 b1 b2 r.1 (by omega), fun r => ?_, fun r => ?_⟩
  ·have s := fst_step0 (k - 1) (by omega)
   rw [show k - 1 + 1 = k by omega] at s
   rcases Int.lt_or_le 1 k with c | c
   ·exact year_uniq v2 (by omega) b1 b2 (by omega) (by rw [show k - 1 + 1 = k by omega]; omega)
   ·have : k = 1 := by omega
    subst this
    have := fst_1
    omega
  ·have s := fst_step0 (k + 1) (by omega)
   exact year_uniq v2 (by omega) b1 b2 (by omega) (by omega)
 ·-- years by weeks
  obtain ⟨a1, a2, _⟩ := g
  obtain ⟨b1, b2, _⟩ := q
  have ek : k = Y := (week_uniq (n := n) (w := w) (k := (n - w1 k w) / 7 + 1) (k' := (n - w1 Y w) / 7 + 1) g0 h1 ⟨a1, a2, rfl⟩ ⟨h3, h4, rfl⟩).1
  subst ek
  have uq : ∀ z, 0 ≤ z → w1 z w ≤ x → x < w1 (z + 1) w → k' = z := fun z z0 z1 z2 => (week_uniq (n := x) (w := w) (k := (x - w1 k' w) / 7 + 1) (k' := (x - w1 z w) / 7 + 1) q0 z0 ⟨b1, b2, rfl⟩ ⟨z1, z2, rfl⟩).1
  have n0 := w1_near k w
  have n1 := w1_near (k + 1) w
  refine ⟨fun r => uq k g0 ?_ ?_, fun r => ?_, fun r => ?_⟩
  ·rw [hA] at r
   split at r <;> omega
  ·rw [hB] at r
   obtain ⟨_, r⟩ := r
   split at r <;> omega
  ·rw [hA] at r
   split at r
   ·omega
   ·rcases Int.lt_or_le 0 k with c | c
    ·have s := w1_step (k - 1) w (by omega)
     rw [show k - 1 + 1 = k by omega] at s
     exact uq (k - 1) (by omega) (by omega) (by rw [show k - 1 + 1 = k by omega]; omega)
    ·have : k = 0 := by omega
     subst this
     have f0 : fst_ 0 = -719528 := by decide
     omega
  ·rw [hB] at r
   split at r
   ·omega
   ·have s := w1_step (k + 1) w (by omega)
    exact uq (k + 1) (by omega) (by omega) (by omega)
 ·-- months
  obtain ⟨a1, a2, a3, a4, _⟩ := date_bd g
  obtain ⟨b1, b2, b3, b4, _⟩ := date_bd q
  obtain ⟨v1, v1', v1a, v1b⟩ := valid_iff.1 g.1
  obtain ⟨v2, v2', v2a, v2b⟩ := valid_iff.1 q.1
  have c1 := cum_succ y1 m1 a3 a4
  have c2 := cum_succ y2 m2 b3 b4
  have g2 := g.2
  have q2 := q.2
  have uq : ∀ (z u n' m' d' y' : Int), isDate n' y' m' d' → 1 ≤ z → z ≤ 9999 → 1 ≤ u → u ≤ 12 → fst_ z + cum z u ≤ n' → n' < fst_ z + cum z (u + 1) → y' = z ∧ m' = u := fun z u n' m' d' y' hd z1 z2 u1 u2 r1 r2 => by
   have hb := cum_succ z u u1 u2
   have hu : isDate n' z u (n' - fst_ z - cum z u + 1) := ⟨valid_iff.2 ⟨z1, z2, by omega, by omega⟩, by omega⟩
   obtain ⟨e1, e2, _⟩ := date_uniq hd hu
   exact ⟨e1, e2⟩
  obtain ⟨ey, em⟩ := uq y m n m1 d1 y1 g h1 h2 h3 h4 h5 h6
  subst ey em
  refine ⟨fun r => ?_, fun r => ?_, fun r => ?_⟩
  ·obtain ⟨e3, e4⟩ := uq y1 m1 x m2 d2 y2 q h1 h2 h3 h4 r.1 (by omega)
   rw [e3, e4]
  ·by_cases cm : m1 = 1
   ·subst cm
    have c0 := cum_1 y1
    have s := fst_step0 (y1 - 1) (by omega)
    rw [show y1 - 1 + 1 = y1 by omega] at s
    rcases Int.lt_or_le 1 y1 with cy | cy
    ·have s' := fst_step (y1 - 1) (by omega)
     rw [show y1 - 1 + 1 = y1 by omega] at s'
     have h13 := cum_succ (y1 - 1) 12 (by omega) (by omega)
     have hl := mlen_bd (y1 - 1) 12
     have hl2 : mlen (y1 - 1) 12 = 31 := by unfold mlen; simp
     obtain ⟨e3, e4⟩ := uq (y1 - 1) 12 x m2 d2 y2 q (by omega) (by omega) (by omega) (by omega) (by rw [show (12 : Int) + 1 = 13 from rfl] at h13; omega) (by rw [show (12 : Int) + 1 = 13 from rfl]; omega)
     rw [e3, e4]
     omega
    ·have : y1 = 1 := by omega
     subst this
     have := fst_1
     omega
   ·have hs := cum_succ y1 (m1 - 1) (by omega) (by omega)
    rw [show m1 - 1 + 1 = m1 by omega] at hs
    have hl : 28 ≤ mlen y1 (m1 - 1) := by
     unfold mlen
     split
     ·split <;> omega
     ·split
      ·omega
      ·rw [if_pos ⟨by omega, by omega⟩]; omega
    obtain ⟨e3, e4⟩ := uq y1 (m1 - 1) x m2 d2 y2 q (by omega) (by omega) (by omega) (by omega) (by omega) (by rw [show m1 - 1 + 1 = m1 by omega]; omega)
    rw [e3, e4]
    omega
  ·by_cases cm : m1 = 12
   ·subst cm
    have s' := fst_step y1 (by omega)
    have c0 := cum_1 (y1 + 1)
    have c3 := cum_succ (y1 + 1) 1 (by omega) (by omega)
    have hl2 : mlen (y1 + 1) 1 = 31 := by unfold mlen; simp
    rw [show (12 : Int) + 1 = 13 from rfl] at r
    have b9 := fst_mono' (a := y1 + 1) (b := 10000) (by omega) (by omega)
    rw [fst_10000] at b9
    rcases Int.lt_or_le y1 9999 with cy | cy
    ·obtain ⟨e3, e4⟩ := uq (y1 + 1) 1 x m2 d2 y2 q (by omega) (by omega) (by omega) (by omega) (by omega) (by omega)
     rw [e3, e4]
     omega
    ·have : y1 = 9999 := by omega
     subst this
     have : fst_ (9999 + 1) = 2932897 := fst_10000
     omega
   ·have hs := cum_succ y1 (m1 + 1) (by omega) (by omega)
    have hl : 28 ≤ mlen y1 (m1 + 1) := by
     unfold mlen
     split
     ·split <;> omega
     ·split
      ·omega
      ·rw [if_pos ⟨by omega, by omega⟩]; omega
    obtain ⟨e3, e4⟩ := uq y1 (m1 + 1) x m2 d2 y2 q (by omega) (by omega) (by omega) (by omega) (by omega) (by omega)
    rw [e3, e4]
    omega
theorem jan1 (y : Int) (h1 : 1 ≤ y) (h2 : y ≤ 9999) : civil_Days.f y 1 1 = some (fst_ y, 0, ()) := by
 have hv : validB y 1 1 = true := valid_iff.2 ⟨h1, h2, by omega, by unfold mlen; simp⟩
 have := cum_1 y
 have e : fst_ y + 1 - 1 + cum y 1 = fst_ y := by omega
 rw [days_spec, if_pos hv, e]
theorem weekOne_l1 (y w : Int) (h1 : 0 ≤ y) (h2 : y ≤ 10001) (hw : 0 ≤ w ∧ w ≤ 6) : days_weekOne.l1 w (fst_ y) = some (w1 y w, ()) := by
 have hb := fst_bd0 y h1 h2
 have hk := wk_bd (fst_ y)
 rw [days_weekOne.l1_eq, weekday_spec]
 simp (disch := omega) only [ss, cond_true, cond_false, Option.bind_some, tmn (show (0 : Int) ≤ wk (fst_ y) - w + 7 by omega)]
 unfold w1
 by_cases c : (wk (fst_ y) - w + 7) % 7 ≤ 3
 ·simp (disch := omega) only [ss, cond_true, cond_false, Option.bind_some]
  congr 2
  unfold wk at *
  omega
 ·simp (disch := omega) only [ss, cond_true, cond_false, Option.bind_some]
  congr 2
  unfold wk at *
  omega
theorem weekOne_spec (y w : Int) (h1 : 0 ≤ y) (h2 : y ≤ 10001) (hw : 0 ≤ w ∧ w ≤ 6) : days_weekOne.f y w = some (if y < 1 then -719169 else if y > 10000 then 2932903 else w1 y w, ()) := by
 rw [days_weekOne.f_eq]
 by_cases c1 : y < 1
 ·rw [if_pos c1]
  simp (disch := omega) only [ss, cond_true, cond_false, Option.bind_some]
 ·rw [if_neg c1]
  by_cases c2 : y > 10000
  ·rw [if_pos c2]
   simp (disch := omega) only [ss, cond_true, cond_false, Option.bind_some]
  ·rw [if_neg c2]
   have hl := weekOne_l1 y w h1 h2 hw
   by_cases c3 : y ≤ 9999
   ·simp (disch := omega) only [ss, cond_true, cond_false, Option.bind_some, jan1 y (by omega) c3, hl]
   ·have : y = 10000 := by omega
    subst this
    rw [fst_10000] at hl
    simp (disch := omega) only [ss, cond_true, cond_false, Option.bind_some, hl]
theorem cut_spec (a b : Int) : days_cut.f a b = some (if a < -719162 then -719162 else a, if b > 2932896 then 2932896 else b, ()) := by
 rw [days_cut.f_eq]
 simp only [mm, cond_true, cond_false, gt_iff_lt]
section
variable (f iv ct un wkst : Int) (en : Bool) (mo we yd md : List Int) (dy : List Dy) (ho mi se po : List Int)
theorem plan_days (s sec n0 y0 m0 d0 w0 t : Int) (ht : inT t) (hf : 1 ≤ f ∧ f ≤ 7) (hw : 0 ≤ wkst ∧ wkst ≤ 6) (hl : we.length ≤ 100000) :
  ∃ A B, (f ≤ 4 → isIv f wkst we (t / 86400) A B) ∧ (4 < f → A = t / 86400 ∧ B = t / 86400) ∧ days_Plan_Days.f ((f, iv, ct, un, wkst, en, mo, we, yd, md, dy, ho, mi, se, po, ()), s, (n0, y0, m0, d0, w0, ()), sec, ()) t = some (A, B, ()) := by
 have hb := inT_day ht
 obtain ⟨y, m, d, hd, e, e'⟩ := date_spec (t / 86400) hb.1 hb.2
 obtain ⟨hD, _⟩ := mday_spec t (by unfold inT at ht; omega) (by unfold inT at ht; omega)
 obtain ⟨q1, q2, q3, q4, _⟩ := date_bd hd
 obtain ⟨v1, v2, v3, v4⟩ := valid_iff.1 hd.1
 have hof := of_spec (t / 86400) y m d e
 have heq := hd.2
 rw [days_Plan_Days.f_eq, hD]
 simp only [Option.bind_some]
 rw [hof]
 simp only [Option.bind_some]
 by_cases f1 : f = 1
 ·subst f1
  by_cases c : we = []
  ·subst c
   have hnil : (([] : List Int).length : Int) = 0 := rfl
   have hs := fst_step y v1
   have h13 := cum13 y
   have hfb := fst_bd0 y (by omega) (by omega)
   have e3 : fst_ y + cum y 13 - 1 = fst_ (y + 1) - 1 := by omega
   refine ⟨fst_ y, fst_ (y + 1) - 1, fun _ => .inl ⟨rfl, rfl, y, v1, v2, q1, q2, rfl, rfl⟩, fun q => by omega, ?_⟩
   simp (disch := omega) only [ss, cond_true, cond_false, Option.bind_some, days_yearDays.f_eq, hnil, jan1 y v1 v2, ylen_spec y (by omega), e3]
  ·have hp := ne_len.1 c
   obtain ⟨Y, K, h1, h2, h3, h4, h5, h6, _⟩ := week_spec (t / 86400) wkst hb.1 hb.2 hw.1 hw.2
   obtain ⟨a1, a2, _⟩ := h1
   have o1 := weekOne_spec Y wkst h2 (by omega) hw
   have o2 := weekOne_spec (Y + 1) wkst (by omega) (by omega) hw
   have n0' := w1_near Y wkst
   have n1' := w1_near (Y + 1) wkst
   have b0 := fst_bd0 Y h2 (by omega)
   have b1 := fst_bd0 (Y + 1) (by omega) (by omega)
   have f0 : fst_ 0 = -719528 := by decide
   have f10 : fst_ 10001 = 2933263 := by decide
   refine ⟨_, _, fun _ => .inr (.inl ⟨rfl, c, Y, h2, h3, a1, a2, rfl, rfl⟩), fun q => by omega, ?_⟩
   have fin : ∀ v1 v2 : Int, v1 = (if Y < 1 then -719169 else if Y > 10000 then 2932903 else w1 Y wkst) → v2 = (if Y + 1 < 1 then -719169 else if Y + 1 > 10000 then 2932903 else w1 (Y + 1) wkst) →
     (if v1 < -719162 then -719162 else v1) = (if w1 Y wkst < -719162 then -719162 else w1 Y wkst) ∧ (if v2 - 1 > 2932896 then 2932896 else v2 - 1) = (if w1 (Y + 1) wkst - 1 > 2932896 then 2932896 else w1 (Y + 1) wkst - 1) ∧ (-10000000 ≤ v2 ∧ v2 ≤ 10000000) := fun v1 v2 e1 e2 => by
    have hv1 : (v1 = -719169 ∧ Y = 0) ∨ v1 = w1 Y wkst := by
     by_cases cY : Y < 1
     ·rw [if_pos cY] at e1
      exact .inl ⟨e1, by omega⟩
     ·rw [if_neg cY, if_neg (by omega)] at e1
      exact .inr e1
    have hv2 : (v2 = 2932903 ∧ Y = 10000) ∨ v2 = w1 (Y + 1) wkst := by
     rw [if_neg (by omega)] at e2
     by_cases cY : Y + 1 > 10000
     ·rw [if_pos cY] at e2
      exact .inl ⟨e2, by omega⟩
     ·rw [if_neg cY] at e2
      exact .inr e2
    refine ⟨?_, ?_, ?_⟩
    ·rcases hv1 with ⟨e3, e4⟩ | e3
     ·subst e4
      rw [e3]
      split <;> split <;> omega
     ·rw [e3]
    ·rcases hv2 with ⟨e3, e4⟩ | e3
     ·subst e4
      have n2 : fst_ (10000 + 1) = 2933263 := f10
      rw [e3]
      split <;> split <;> omega
     ·rw [e3]
    ·rcases hv2 with ⟨e3, _⟩ | e3 <;> rw [e3] <;> omega
   obtain ⟨g1, g2, g3⟩ := fin _ _ rfl rfl
   rw [← g1, ← g2]
   simp (disch := omega) only [ss, cond_true, cond_false, Option.bind_some, days_yearDays.f_eq, days_year.f_eq, h6, o1, o2, cut_spec]
 ·by_cases f2 : f = 2
  ·subst f2
   have hc := cum_succ y m q3 q4
   have hml := mlen_bd y m
   have e1 : t / 86400 - d + 1 = fst_ y + cum y m := by omega
   have e2 : t / 86400 - d + mlen y m = fst_ y + cum y (m + 1) - 1 := by omega
   refine ⟨fst_ y + cum y m, fst_ y + cum y (m + 1) - 1, fun _ => .inr (.inr (.inl ⟨rfl, y, m, v1, v2, q3, q4, by omega, by omega, rfl, rfl⟩)), fun q => by omega, ?_⟩
   simp (disch := omega) only [ss, cond_true, cond_false, Option.bind_some, length_spec y m (by omega), e1, e2]
  ·by_cases f3 : f = 3
   ·subst f3
    have hk := wk_bd (t / 86400)
    have hm : Int.tmod (wk (t / 86400) - wkst + 7) 7 = (t / 86400 + 3 - wkst) % 7 := by
     rw [tmn (by omega)]
     unfold wk
     omega
    have e6 : t / 86400 - (t / 86400 + 3 - wkst) % 7 + 7 - 1 = t / 86400 - (t / 86400 + 3 - wkst) % 7 + 6 := by omega
    refine ⟨_, _, fun _ => .inr (.inr (.inr (.inl ⟨rfl, rfl, rfl⟩))), fun q => by omega, ?_⟩
    simp (disch := omega) only [ss, cond_true, cond_false, Option.bind_some, hm, e6, cut_spec]
   ·refine ⟨t / 86400, t / 86400, fun q => .inr (.inr (.inr (.inr ⟨by omega, rfl, rfl⟩))), fun _ => ⟨rfl, rfl⟩, ?_⟩
    simp (disch := omega) only [ss, cond_true, cond_false, Option.bind_some]
end
end Go.GV.YtaeejbmbkejjiaaGreatDoor
namespace Go.GV.YtaeejbmbkejjiaaGreatDoor
open Go.Proofs
abbrev PlT := Rl × (Rl × Int × (Int × Int × Int × Int × Int × Unit) × Int × Unit) × Int × (List Int) × (List Int) × (List Int) × Unit
noncomputable def per (f w : Int) (we : List Int) (t : Int) : Int := Classical.epsilon fun k => isPer f w we t k
theorem per_is {f w : Int} {we : List Int} {t k : Int} (h : isPer f w we t k) : isPer f w we t (per f w we t) := Classical.epsilon_spec ⟨k, h⟩
theorem per_eq {f w : Int} {we : List Int} {t k : Int} (h : isPer f w we t k) : k = per f w we t :=
 Int.le_antisymm (per_mono h (per_is h) (Int.le_refl _)) (per_mono (per_is h) h (Int.le_refl _))
noncomputable def ind (p : Prop) : Bool := @decide p (Classical.propDecidable p)
theorem ind_iff {p : Prop} : ind p = true ↔ p := @decide_eq_true_iff p (Classical.propDecidable p)
theorem ind_t {p : Prop} (h : p) : ind p = true := ind_iff.2 h
theorem ind_f {p : Prop} (h : ¬ p) : ind p = false := by
 cases e : ind p with
 | false => rfl
 | true => exact absurd (ind_iff.1 e) h
noncomputable def fitsB (f wkst : Int) (mo we yd md : List Int) (dy : List Dy) (s n : Int) : Bool :=
 ind (∃ y0 m0 d0 y m d, isDate (s / 86400) y0 m0 d0 ∧ isDate n y m d ∧ fitP f wkst mo we yd md dy m0 d0 (wk (s / 86400)) n y m d)
theorem fitsB_in {f wkst : Int} {mo we yd md : List Int} {dy : List Dy} {s n : Int} (h : fitsB f wkst mo we yd md dy s n = true) : -719162 ≤ n ∧ n ≤ 2932896 := by
 unfold fitsB at h
 obtain ⟨y0, m0, d0, y, m, d, _, h, _⟩ := ind_iff.1 h
 have := date_bd h
 omega
structure PlanOK (P : PlT) (r : Rl) (s : Int) (F : Int → Bool) (pr : Int → Int) (h m c : List Int) : Prop where
 dmk : days_Make.f r s = some (P.2.1, true, ())
 er : P.1 = r
 es : P.2.2.1 = s
 eh : P.2.2.2.1 = h
 em : P.2.2.2.2.1 = m
 ec : P.2.2.2.2.2.1 = c
 inS : inT s
 fits : ∀ n, days_Plan_Fits.f P.2.1 n = some (F n, ())
 fin : ∀ n, F n = true → -719162 ≤ n ∧ n ≤ 2932896
 period : ∀ t, inT t → days_Plan_Period.f P.2.1 t = some (pr t - pr s, ())
 days : ∀ t, inT t → ∃ A B, days_Plan_Days.f P.2.1 t = some (A, B, ()) ∧ (A ≤ t / 86400 ∧ t / 86400 ≤ B ∧ -719162 ≤ A ∧ B ≤ 2932896) ∧ (r.1 ≤ 4 → ∀ x, inT x → (pr x = pr t ↔ A ≤ x / 86400 ∧ x / 86400 ≤ B)) ∧ (4 < r.1 → A = t / 86400 ∧ B = t / 86400)
 p5 : r.1 = 5 → ∀ t, inT t → pr t = t / 3600
 p6 : r.1 = 6 → ∀ t, inT t → pr t = t / 60
 p7 : r.1 = 7 → ∀ t, inT t → pr t = t
 mono : ∀ t t', inT t → inT t' → t ≤ t' → pr t ≤ pr t'
 bd : ∀ t, inT t → -300000000000 ≤ pr t ∧ pr t ≤ 300000000000
 oh : okT h 23
 om : okT m 59
 oc : okT c 59
 fr : 1 ≤ r.1 ∧ r.1 ≤ 7
 iv : 1 ≤ r.2.1 ∧ r.2.1 ≤ 1000
 lp : r.2.2.2.2.2.2.2.2.2.2.2.2.2.2.1.length ≤ 1000
section
variable (f iv ct un wkst : Int) (en : Bool) (mo we yd md : List Int) (dy : List Dy) (ho mi se po : List Int)
theorem fits_val (s sec n y0 m0 d0 : Int) (hs : short mo we yd md dy ho mi se po) (hw : 0 ≤ wkst ∧ wkst ≤ 6) (h0 : isDate (s / 86400) y0 m0 d0) :
  days_Plan_Fits.f ((f, iv, ct, un, wkst, en, mo, we, yd, md, dy, ho, mi, se, po, ()), s, (s / 86400, y0, m0, d0, wk (s / 86400), ()), sec, ()) n = some (fitsB f wkst mo we yd md dy s n, ()) := by
 by_cases c : -719162 ≤ n ∧ n ≤ 2932896
 ·obtain ⟨y, m, d, h, e, _⟩ := date_spec n c.1 c.2
  obtain ⟨b, h1, h2⟩ := plan_fits f iv ct un wkst en mo we yd md dy ho mi se po s sec (s / 86400) y0 m0 d0 (wk (s / 86400)) n y m d hs hw h e
  rw [h1]
  have : fitsB f wkst mo we yd md dy s n = b := by
   unfold fitsB
   cases b with
   | true => exact ind_t ⟨y0, m0, d0, y, m, d, h0, h, h2.1 rfl⟩
   | false =>
    refine ind_f fun ⟨y0', m0', d0', y', m', d', g0, g, q⟩ => ?_
    obtain ⟨rfl, rfl, rfl⟩ := date_uniq g0 h0
    obtain ⟨rfl, rfl, rfl⟩ := date_uniq g h
    exact absurd (h2.2 q) (by simp)
  rw [this]
 ·rw [plan_none f iv ct un wkst en mo we yd md dy ho mi se po s sec (s / 86400) y0 m0 d0 (wk (s / 86400)) n c]
  have : fitsB f wkst mo we yd md dy s n = false := by
   cases hq : fitsB f wkst mo we yd md dy s n with
   | false => rfl
   | true => exact absurd (fitsB_in hq) c
  rw [this]
def hoursL (s : Int) : List Int := tms ho (decide (f ≤ 4)) (s % 86400 / 3600) 24
def minsL (s : Int) : List Int := tms mi (decide (f ≤ 5)) (s % 86400 / 60 % 60) 60
def secsL (s : Int) : List Int := tms se (decide (f ≤ 6)) (s % 86400 % 60) 60
theorem plan_ok (s : Int) (hs : short mo we yd md dy ho mi se po) (hM : rule_May.f (f, iv, ct, un, wkst, en, mo, we, yd, md, dy, ho, mi, se, po, ()) = some (true, ())) (ht : inT s) :
  ∃ P : PlT, member_Make.f (f, iv, ct, un, wkst, en, mo, we, yd, md, dy, ho, mi, se, po, ()) s = some (P, true, ()) ∧
   PlanOK P (f, iv, ct, un, wkst, en, mo, we, yd, md, dy, ho, mi, se, po, ()) s (fitsB f wkst mo we yd md dy s) (per f wkst we) (hoursL f ho s) (minsL f mi s) (secsL f se s) := by
 have hp := may_p (r := (f, iv, ct, un, wkst, en, mo, we, yd, md, dy, ho, mi, se, po, ())) hs hM
 dsimp only at hp
 have hf : 1 ≤ f ∧ f ≤ 7 := ⟨hp.1.1.1, hp.1.1.2.1⟩
 have hw : 0 ≤ wkst ∧ wkst ≤ 6 := ⟨hp.1.1.2.2.2.2.2.2.1, hp.1.1.2.2.2.2.2.2.2⟩
 have hl : we.length ≤ 100000 := hs.2.1
 obtain ⟨y0, m0, d0, h0, e0, _⟩ := date_spec (s / 86400) (inT_day ht).1 (inT_day ht).2
 have hMk := make_ok _ s hM ht y0 m0 d0 e0
 obtain ⟨sec, hsec⟩ : ∃ x, x = s % 86400 := ⟨_, rfl⟩
 have hs1 : 0 ≤ sec ∧ sec ≤ 86399 := by omega
 have g1 : days_some.f ho (decide (f ≤ 4)) (sec / 3600) 24 = some (hoursL f ho s, ()) := by rw [hsec]; exact (some_val ho (decide (f ≤ 4)) (s % 86400 / 3600) 24 (by have := hp.2.1.2.2.2.2.1.2; omega) (by omega)).1
 have g2 : days_some.f mi (decide (f ≤ 5)) (sec / 60 % 60) 60 = some (minsL f mi s, ()) := by rw [hsec]; exact (some_val mi (decide (f ≤ 5)) (s % 86400 / 60 % 60) 60 (by have := hp.2.1.2.2.2.2.2.1.2; omega) (by omega)).1
 have g3 : days_some.f se (decide (f ≤ 6)) (sec % 60) 60 = some (secsL f se s, ()) := by rw [hsec]; exact (some_val se (decide (f ≤ 6)) (s % 86400 % 60) 60 (by have := hp.2.1.2.2.2.2.2.2.1.2; omega) (by omega)).1
 have t1 : IntKind.i64.wrap (Int.tdiv sec 3600) = sec / 3600 := by rw [tdn hs1.1, wr (by omega) (by omega)]
 have t2 : Int.tmod (IntKind.i64.wrap (Int.tdiv sec 60)) 60 = sec / 60 % 60 := by rw [tdn hs1.1, wr (by omega) (by omega), tmn (by omega)]
 have t3 : Int.tmod sec 60 = sec % 60 := tmn hs1.1 _
 rw [← hsec] at hMk
 refine ⟨((f, iv, ct, un, wkst, en, mo, we, yd, md, dy, ho, mi, se, po, ()), ((f, iv, ct, un, wkst, en, mo, we, yd, md, dy, ho, mi, se, po, ()), s, (s / 86400, y0, m0, d0, wk (s / 86400), ()), sec, ()), s, hoursL f ho s, minsL f mi s, secsL f se s, ()), ?_, ?_⟩
 ·rw [member_Make.f_eq, hMk]
  simp (disch := omega) only [ss, cond_true, cond_false, Option.bind_some, days_Plan_Times.f_eq, t1, t2, t3, g1, g2, g3]
 have hper : ∀ t, inT t → isPer f wkst we t (per f wkst we t) ∧ (-300000000000 ≤ per f wkst we t ∧ per f wkst we t ≤ 300000000000) ∧ days_number.f (f, iv, ct, un, wkst, en, mo, we, yd, md, dy, ho, mi, se, po, ()) t = some (per f wkst we t + off f wkst, ()) := fun t h => by
  obtain ⟨k, k1, k2, k3, _⟩ := num_both f iv ct un wkst en mo we yd md dy ho mi se po t h hf hw hl
  have e := per_eq k1
  subst e
  exact ⟨k1, k2, k3⟩
 have hoff : 0 ≤ off f wkst ∧ off f wkst ≤ 2932896 := by unfold off; split <;> (try split) <;> omega
 refine { dmk := hMk, er := rfl, es := rfl, eh := rfl, em := rfl, ec := rfl, inS := ht, fits := fun n => ?_, fin := fun n h => fitsB_in h, period := fun t h => ?_, days := fun t h => ?_, p5 := fun q t h => ?_, p6 := fun q t h => ?_, p7 := fun q t h => ?_, mono := fun t t' h h' q => ?_, bd := fun t h => (hper t h).2.1, oh := ?_, om := ?_, oc := ?_, fr := hf, iv := ⟨hp.1.1.2.2.1, hp.1.1.2.2.2.1⟩, lp := ?_ }
 ·exact fits_val f iv ct un wkst en mo we yd md dy ho mi se po s sec n y0 m0 d0 hs hw h0
 ·have a := hper t h
  have b := hper s ht
  have e : per f wkst we t + off f wkst - (per f wkst we s + off f wkst) = per f wkst we t - per f wkst we s := by omega
  rw [days_Plan_Period.f_eq]
  simp (disch := omega) only [ss, cond_true, cond_false, Option.bind_some, a.2.2, b.2.2, e]
 ·obtain ⟨A, B, h1, h2, h3⟩ := plan_days f iv ct un wkst en mo we yd md dy ho mi se po s sec (s / 86400) y0 m0 d0 (wk (s / 86400)) t h hf hw hl
  have hd := inT_day h
  refine ⟨A, B, h3, ?_, fun q x hx => ?_, h2⟩
  ·by_cases c : f ≤ 4
   ·have := iv_bd (h1 c) hd
    omega
   ·have := h2 (by omega)
    omega
  ·have hx' := inT_day hx
   have q : f ≤ 4 := q
   have hn : ∀ t, inT t → isNum f wkst we (t / 86400) (per f wkst we t) := fun t h => by
    rcases (hper t h).1 with ⟨_, a⟩ | ⟨z, _⟩ | ⟨z, _⟩ | ⟨z, _⟩
    ·exact a
    ·omega
    ·omega
    ·omega
   have hb := iv_bd (h1 q) hd
   refine ⟨fun z => ?_, fun z => (iv_num (h1 q) (hn t h) (hn x hx) hx').1 z⟩
   refine Classical.byContradiction fun hc => ?_
   rcases (show x / 86400 ≤ A - 1 ∨ B + 1 ≤ x / 86400 by omega) with g | g
   ·have ht1 : inT ((A - 1) * 86400) := by unfold inT; omega
    have n1 := hn _ ht1
    have e : (A - 1) * 86400 / 86400 = A - 1 := by omega
    rw [e] at n1
    have k1 := (iv_num (h1 q) (hn t h) n1 (by omega)).2.1 rfl
    have k2 := num_mono (hn x hx) n1 g
    omega
   ·have ht1 : inT ((B + 1) * 86400) := by unfold inT; omega
    have n1 := hn _ ht1
    have e : (B + 1) * 86400 / 86400 = B + 1 := by omega
    rw [e] at n1
    have k1 := (iv_num (h1 q) (hn t h) n1 (by omega)).2.2 rfl
    have k2 := num_mono n1 (hn x hx) g
    omega
 ·have q : f = 5 := q
  rcases (hper t h).1 with ⟨z, _⟩ | ⟨_, z⟩ | ⟨z, _⟩ | ⟨z, _⟩
  ·omega
  ·exact z
  ·omega
  ·omega
 ·have q : f = 6 := q
  rcases (hper t h).1 with ⟨z, _⟩ | ⟨z, _⟩ | ⟨_, z⟩ | ⟨z, _⟩
  ·omega
  ·omega
  ·exact z
  ·omega
 ·have q : f = 7 := q
  rcases (hper t h).1 with ⟨z, _⟩ | ⟨z, _⟩ | ⟨z, _⟩ | ⟨_, z⟩
  ·omega
  ·omega
  ·omega
  ·exact z
 ·exact per_mono (hper t h).1 (hper t' h').1 q
 ·exact tms_ok ho _ _ 23 24 hp.2.1.2.2.2.2.1 (by omega) (by omega) (by omega)
 ·exact tms_ok mi _ _ 59 60 hp.2.1.2.2.2.2.2.1 (by omega) (by omega) (by omega)
 ·exact tms_ok se _ _ 59 60 hp.2.1.2.2.2.2.2.2.1 (by omega) (by omega) (by omega)
 ·have : po.length ≤ 60 := hp.2.1.2.2.2.2.2.2.2.1.2
  show po.length ≤ 1000
  omega
end
theorem plan_no (r : Rl) (s : Int) (b : Bool) (hM : rule_May.f r = some (b, ())) (h : ¬ (b = true ∧ inT s)) :
  ∃ P : PlT, member_Make.f r s = some (P, false, ()) := by
 rw [member_Make.f_eq, make_no r s b hM h]
 exact ⟨_, by simp (disch := omega) only [ss, cond_true, cond_false, Option.bind_some]; rfl⟩
end Go.GV.YtaeejbmbkejjiaaGreatDoor
namespace Go.GV.YtaeejbmbkejjiaaGreatDoor
open Go.Proofs
theorem take_step {α : Type} (M : Nat) (l a b : List α) (h : l.length ≤ M) : (l ++ a.take (M - l.length + 1) ++ b).take (M + 1) = (l ++ (a ++ b)).take (M + 1) := by
 by_cases c : a.length ≤ M - l.length + 1
 ·rw [List.take_of_length_le c, List.append_assoc]
 ·have e1 : (l ++ a.take (M - l.length + 1)).length = M + 1 := by
   rw [List.length_append, List.length_take]
   omega
  rw [List.take_append_of_le_length (by omega), List.take_of_length_le (by omega), List.take_append, List.take_append_of_le_length (by omega), List.take_of_length_le (show l.length ≤ M + 1 by omega)]
  congr 2
  omega
theorem take_full {α : Type} (M : Nat) (l a : List α) (h : l.length = M + 1) : (l ++ a).take (M + 1) = l := by
 rw [List.take_append_of_le_length (by omega), List.take_of_length_le (by omega)]
section
variable (lo hi d : Int)
def sel (a b : Int) (ss : List Int) : List Int := (ss.filter fun s => decide (lo ≤ 3600 * a + 60 * b + s) && decide (3600 * a + 60 * b + s < hi)).map fun s => d * 86400 + (3600 * a + 60 * b + s)
theorem sel_nil (a b : Int) (ss : List Int) (h : ∀ s, s ∈ ss → ¬ (lo ≤ 3600 * a + 60 * b + s ∧ 3600 * a + 60 * b + s < hi)) : sel lo hi d a b ss = [] := by
 unfold sel
 rw [List.map_eq_nil_iff, List.filter_eq_nil_iff]
 intro s hs
 rw [Bool.and_eq_true, decide_eq_true_eq, decide_eq_true_eq]
 exact h s hs
def selH (m c : List Int) (a : Int) : List Int := m.flatMap fun b => sel lo hi d a b c
theorem day_sel (h m c : List Int) : dayL h m c lo hi d = h.flatMap (selH lo hi d m c) := by
 unfold dayL tod selH sel
 simp only [List.filter_flatMap, List.map_flatMap, List.filter_map, List.map_map]
 rfl
variable (P : PlT) (M : Nat) (hM : M ≤ 200000) (hlo : 0 ≤ lo ∧ lo ≤ 100000) (hhi : 0 ≤ hi ∧ hi ≤ 100000) (hd : -1000000 ≤ d ∧ d ≤ 4000000)
 (oh : okT P.2.2.2.1 23) (om : okT P.2.2.2.2.1 59) (oc : okT P.2.2.2.2.2.1 59)
include hM hlo hhi hd oh om oc
theorem day_l5 (i j : Nat) (a b : Int) (ha : 0 ≤ a ∧ a ≤ 23) (hb : 0 ≤ b ∧ b ≤ 59) (hj : j < P.2.2.2.2.1.length) (rest : List Int)
  (C : ∀ l : List Int, l.length ≤ M → member_Plan_Day.l3 d lo hi M a P.2.2.2.1 (P.2.2.2.1.length : Int) i P.2.2.2.2.1 (P.2.2.2.2.1.length : Int) ((j + 1 : Nat) : Int) P l = some ((l ++ rest).take (M + 1), (), ())) :
  ∀ (n k : Nat), P.2.2.2.2.2.1.length - k = n → k ≤ P.2.2.2.2.2.1.length → ∀ l : List Int, l.length ≤ M →
   member_Plan_Day.l5 d lo hi M a (3600 * a + 60 * b) P.2.2.2.1 (P.2.2.2.1.length : Int) i P.2.2.2.2.1 (P.2.2.2.2.1.length : Int) j P.2.2.2.2.2.1 (P.2.2.2.2.2.1.length : Int) k P l = some ((l ++ (sel lo hi d a b (P.2.2.2.2.2.1.drop k) ++ rest)).take (M + 1), (), ()) := by
 have hlim : limit = 17179869184 := rfl
 have lh := oh.2.2
 have lm := om.2.2
 have lc := oc.2.2
 intro n
 induction n with
 | zero =>
  intro k hk hkl l hl
  have e : k = P.2.2.2.2.2.1.length := by omega
  subst e
  have := C l hl
  rw [Int.natCast_add, Int.natCast_one] at this
  rw [member_Plan_Day.l5_eq]
  simp (disch := omega) only [ss, cond_true, cond_false, Option.bind_some]
  rw [this, List.drop_length]
  rfl
 | succ n ih =>
  intro k hk hkl l hl
  have hlt : k < P.2.2.2.2.2.1.length := by omega
  have hs := oc.2.1 _ (get_mem hlt)
  have ih' := ih (k + 1) (by omega) (by omega)
  rw [Int.natCast_add, Int.natCast_one] at ih'
  rw [member_Plan_Day.l5_eq, Int.toNat_natCast, drop_getD' 0 hlt]
  generalize P.2.2.2.2.2.1.getD k 0 = s at hs ⊢
  by_cases c1 : 3600 * a + 60 * b + s < lo
  ·have e : sel lo hi d a b (s :: P.2.2.2.2.2.1.drop (k + 1)) = sel lo hi d a b (P.2.2.2.2.2.1.drop (k + 1)) := by
    unfold sel
    rw [List.filter_cons_of_neg (by rw [dn (show ¬ lo ≤ 3600 * a + 60 * b + s by omega)]; simp)]
   rw [e]
   simp (disch := omega) only [ss, cond_true, cond_false, Option.bind_some, member_Plan_Day.l6_eq]
   exact ih' l hl
  ·by_cases c2 : 3600 * a + 60 * b + s ≥ hi
   ·have e : sel lo hi d a b (s :: P.2.2.2.2.2.1.drop (k + 1)) = sel lo hi d a b (P.2.2.2.2.2.1.drop (k + 1)) := by
     unfold sel
     rw [List.filter_cons_of_neg (by rw [dn (show ¬ 3600 * a + 60 * b + s < hi by omega)]; simp)]
    rw [e]
    simp (disch := omega) only [ss, cond_true, cond_false, Option.bind_some, member_Plan_Day.l6_eq]
    exact ih' l hl
   ·have e : sel lo hi d a b (s :: P.2.2.2.2.2.1.drop (k + 1)) = (d * 86400 + (3600 * a + 60 * b + s)) :: sel lo hi d a b (P.2.2.2.2.2.1.drop (k + 1)) := by
     unfold sel
     rw [List.filter_cons_of_pos (by rw [dp (show lo ≤ 3600 * a + 60 * b + s by omega), dp (show 3600 * a + 60 * b + s < hi by omega)]; rfl)]
     rfl
    rw [e]
    have ea : d * 86400 + (3600 * a + 60 * b) + s = d * 86400 + (3600 * a + 60 * b + s) := by omega
    have hlen : (l ++ [d * 86400 + (3600 * a + 60 * b + s)]).length = l.length + 1 := len_snoc _ _
    have eapp : ∀ x : List Int, l ++ ((d * 86400 + (3600 * a + 60 * b + s)) :: x ++ rest) = l ++ [d * 86400 + (3600 * a + 60 * b + s)] ++ (x ++ rest) := fun x => by simp
    rw [eapp]
    by_cases c3 : l.length = M
    ·simp (disch := omega) only [ss, cond_true, cond_false, Option.bind_some, member_Plan_Day.l6_eq, member_all.f_eq, ea, hlen, List.length_singleton, hlim]
     rw [take_full _ _ _ (by rw [hlen, c3])]
    ·simp (disch := omega) only [ss, cond_true, cond_false, Option.bind_some, member_Plan_Day.l6_eq, member_all.f_eq, ea, hlen, List.length_singleton, hlim]
     exact ih' _ (by rw [hlen]; omega)
theorem day_l3 (i : Nat) (a : Int) (ha : 0 ≤ a ∧ a ≤ 23) (hi' : i < P.2.2.2.1.length) (rest : List Int)
  (C : ∀ l : List Int, l.length ≤ M → member_Plan_Day.l1 d lo hi M P.2.2.2.1 (P.2.2.2.1.length : Int) ((i + 1 : Nat) : Int) P l = some ((l ++ rest).take (M + 1), (), ())) :
  ∀ (n j : Nat), P.2.2.2.2.1.length - j = n → j ≤ P.2.2.2.2.1.length → ∀ l : List Int, l.length ≤ M →
   member_Plan_Day.l3 d lo hi M a P.2.2.2.1 (P.2.2.2.1.length : Int) i P.2.2.2.2.1 (P.2.2.2.2.1.length : Int) j P l = some ((l ++ ((P.2.2.2.2.1.drop j).flatMap (fun b => sel lo hi d a b P.2.2.2.2.2.1) ++ rest)).take (M + 1), (), ()) := by
 have lh := oh.2.2
 have lm := om.2.2
 have lc := oc.2.2
 intro n
 induction n with
 | zero =>
  intro j hj hjl l hl
  have e : j = P.2.2.2.2.1.length := by omega
  subst e
  have := C l hl
  rw [Int.natCast_add, Int.natCast_one] at this
  rw [member_Plan_Day.l3_eq]
  simp (disch := omega) only [ss, cond_true, cond_false, Option.bind_some]
  rw [this, List.drop_length]
  rfl
 | succ n ih =>
  intro j hj hjl l hl
  have hlt : j < P.2.2.2.2.1.length := by omega
  have hb := om.2.1 _ (get_mem hlt)
  have ih' := ih (j + 1) (by omega) (by omega)
  have ih2 := ih'
  rw [Int.natCast_add, Int.natCast_one] at ih2
  rw [member_Plan_Day.l3_eq, Int.toNat_natCast, drop_getD' 0 hlt, List.flatMap_cons]
  generalize P.2.2.2.2.1.getD j 0 = b at hb ⊢
  by_cases c1 : 3600 * a + 60 * b + 59 < lo
  ·rw [sel_nil lo hi d a b _ (fun s hs => by have := oc.2.1 s hs; omega)]
   simp (disch := omega) only [ss, cond_true, cond_false, Option.bind_some, member_Plan_Day.l4_eq]
   exact ih2 l hl
  ·by_cases c2 : 3600 * a + 60 * b ≥ hi
   ·rw [sel_nil lo hi d a b _ (fun s hs => by have := oc.2.1 s hs; omega)]
    simp (disch := omega) only [ss, cond_true, cond_false, Option.bind_some, member_Plan_Day.l4_eq]
    exact ih2 l hl
   ·have h5 := day_l5 lo hi d P M hM hlo hhi hd oh om oc i j a b ha hb hlt _ ih' P.2.2.2.2.2.1.length 0 (by omega) (Nat.zero_le _) l hl
    rw [Int.natCast_zero, List.drop_zero] at h5
    simp (disch := omega) only [ss, cond_true, cond_false, Option.bind_some, member_Plan_Day.l4_eq]
    rw [h5, List.append_assoc]
theorem day_l1 : ∀ (n i : Nat), P.2.2.2.1.length - i = n → i ≤ P.2.2.2.1.length → ∀ l : List Int, l.length ≤ M →
   member_Plan_Day.l1 d lo hi M P.2.2.2.1 (P.2.2.2.1.length : Int) i P l = some ((l ++ (P.2.2.2.1.drop i).flatMap (selH lo hi d P.2.2.2.2.1 P.2.2.2.2.2.1)).take (M + 1), (), ()) := by
 have lh := oh.2.2
 have lm := om.2.2
 have lc := oc.2.2
 intro n
 induction n with
 | zero =>
  intro i hin hil l hl
  have e : i = P.2.2.2.1.length := by omega
  subst e
  rw [member_Plan_Day.l1_eq]
  simp (disch := omega) only [ss, cond_true, cond_false, Option.bind_some]
  rw [List.drop_length, List.flatMap_nil, List.append_nil, List.take_of_length_le (by omega)]
 | succ n ih =>
  intro i hin hil l hl
  have hlt : i < P.2.2.2.1.length := by omega
  have ha := oh.2.1 _ (get_mem hlt)
  have ih' := ih (i + 1) (by omega) (by omega)
  have ih2 := ih'
  rw [Int.natCast_add, Int.natCast_one] at ih2
  rw [member_Plan_Day.l1_eq, Int.toNat_natCast, drop_getD' 0 hlt, List.flatMap_cons]
  generalize P.2.2.2.1.getD i 0 = a at ha ⊢
  have hnil : (∀ x : Int, 0 ≤ x → x ≤ 3599 → ¬ (lo ≤ 3600 * a + x ∧ 3600 * a + x < hi)) → selH lo hi d P.2.2.2.2.1 P.2.2.2.2.2.1 a = [] := fun q => by
   unfold selH
   rw [List.flatMap_eq_nil_iff]
   intro b hb
   refine sel_nil lo hi d a b _ fun s hs => ?_
   have := oc.2.1 s hs
   have := om.2.1 b hb
   have := q (60 * b + s) (by omega) (by omega)
   omega
  by_cases c1 : 3600 * a + 3599 < lo
  ·rw [hnil (fun x h1 h2 => by omega)]
   simp (disch := omega) only [ss, cond_true, cond_false, Option.bind_some, member_Plan_Day.l2_eq]
   exact ih2 l hl
  ·by_cases c2 : 3600 * a ≥ hi
   ·rw [hnil (fun x h1 h2 => by omega)]
    simp (disch := omega) only [ss, cond_true, cond_false, Option.bind_some, member_Plan_Day.l2_eq]
    exact ih2 l hl
   ·have h3 := day_l3 lo hi d P M hM hlo hhi hd oh om oc i a ha hlt _ ih' P.2.2.2.2.1.length 0 (by omega) (Nat.zero_le _) l hl
    rw [Int.natCast_zero, List.drop_zero] at h3
    simp (disch := omega) only [ss, cond_true, cond_false, Option.bind_some, member_Plan_Day.l2_eq]
    exact h3
theorem day_val : member_Plan_Day.f P d lo hi M () = some ((dayL P.2.2.2.1 P.2.2.2.2.1 P.2.2.2.2.2.1 lo hi d).take (M + 1), (), ()) := by
 have h := day_l1 lo hi d P M hM hlo hhi hd oh om oc P.2.2.2.1.length 0 (by omega) (Nat.zero_le _) [] (Nat.zero_le _)
 rw [Int.natCast_zero, List.drop_zero, List.nil_append] at h
 rw [member_Plan_Day.f_eq, day_sel]
 exact h
end
theorem set_l1 (P : PlT) (r : Rl) (s : Int) (F : Int → Bool) (pr : Int → Int) (h m c : List Int) (hP : PlanOK P r s F pr h m c) (lo hi B : Int) (M : Nat) (hM : M ≤ 200000) (hlo : 0 ≤ lo ∧ lo ≤ 100000) (hhi : 0 ≤ hi ∧ hi ≤ 100000) (hB : B ≤ 2932896) :
  ∀ (n : Nat) (d : Int), (B + 1 - d).toNat = n → -719162 ≤ d → ∀ l : List Int, l.length ≤ M + 1 → member_Plan_Set.l1 M lo hi B d P l = some ((l ++ setF F h m c lo hi n d).take (M + 1), ()) := by
 have hlim : limit = 17179869184 := rfl
 intro n
 induction n with
 | zero =>
  intro d hn hd l hl
  rw [member_Plan_Set.l1_eq, dn (show ¬ d ≤ B by omega), cond_false, member_Plan_Set.l2_eq, cond_false]
  show _ = some ((l ++ []).take (M + 1), ())
  rw [List.append_nil, List.take_of_length_le hl]
 | succ n ih =>
  intro d hn hd l hl
  have hdB : d ≤ B := by omega
  rw [member_Plan_Set.l1_eq, dp hdB, cond_true, member_Plan_Set.l2_eq]
  by_cases c1 : l.length = M + 1
  ·rw [dn (show ¬ (l.length : Int) ≤ M by omega), cond_false, take_full _ _ _ c1]
  ·have hl' : l.length ≤ M := by omega
   rw [dp (show (l.length : Int) ≤ M by omega), cond_true, member_Plan_Fits.f_eq, hP.fits d]
   have hw : IntKind.i64.wrap (d + 1) = d + 1 := wr (by omega) (by omega)
   have hwl : IntKind.i64.wrap ((M : Int) - (l.length : Int)) = ((M - l.length : Nat) : Int) := by rw [wr (by omega) (by omega)]; omega
   simp only [Option.bind_some, hw, hwl]
   unfold setF
   cases hF : F d with
   | false =>
    rw [cond_false, if_neg (by simp)]
    exact ih (d + 1) (by omega) (by omega) l hl
   | true =>
    have hday := day_val lo hi d P (M - l.length) (by omega) hlo hhi ⟨by omega, by omega⟩ (by rw [hP.eh]; exact hP.oh) (by rw [hP.em]; exact hP.om) (by rw [hP.ec]; exact hP.oc)
    rw [hP.eh, hP.em, hP.ec] at hday
    rw [cond_true, if_pos rfl, hday]
    have hlen : (l ++ (dayL h m c lo hi d).take (M - l.length + 1)).length ≤ M + 1 := by
     rw [List.length_append, List.length_take]
     omega
    rw [List.length_append] at hlen
    simp only [Option.bind_some]
    rw [dp (by omega), cond_true, ih (d + 1) (by omega) (by omega) _ (by rw [List.length_append]; exact hlen), take_step _ _ _ _ hl']
theorem half {a b : Nat} (h : a + b < 4611686018427387904) : IntKind.i64.wrap (shrI .u64 (IntKind.u64.wrap (IntKind.i64.wrap ((a : Int) + (b : Int)))) 1) = (((a + b) / 2 : Nat) : Int) := by
 rw [wr (x := (a : Int) + (b : Int)) (by omega) (by omega), Go.IntWalk.u64_in ((a : Int) + (b : Int)) (by omega)]
 have e : shrI .u64 ((a : Int) + (b : Int)) 1 = (((a + b) / 2 : Nat) : Int) := by
  show Int.fdiv ((a : Int) + (b : Int)) (2 ^ (min (1 : Int).toNat 64)) = _
  rw [show min (1 : Int).toNat 64 = 1 from rfl, show (2 : Int) ^ 1 = 2 from rfl, Int.fdiv_eq_ediv_of_nonneg _ (by decide)]
  omega
 rw [e, wr (by omega) (by omega)]
theorem less_int (a b : Int) : cmp_Less_int.f a b = some (decide (a < b), ()) := by
 rw [cmp_Less_int.f_eq]
 simp (disch := omega) only [ss, cond_true, cond_false, Option.bind_some, cmp_isNaN_int.f_eq, ne_eq, not_true_eq_false]
theorem nan_int (a : Int) : slices_isNaN_int.f a = some (false, ()) := by
 rw [slices_isNaN_int.f_eq]
 simp (disch := omega) only [ss, cond_true, cond_false, Option.bind_some, ne_eq, not_true_eq_false]
theorem bs_l1 {l : List Int} (hl : l.length ≤ 1000000) (hr : Rise l) (t : Int) : ∀ (k a b : Nat), b - a ≤ k → a ≤ b → b ≤ l.length → (∀ j, j < a → l.getD j 0 < t) → (∀ j, b ≤ j → j < l.length → t ≤ l.getD j 0) →
  ∃ i : Nat, slices_BinarySearch_int_int.l1 l t (l.length : Int) a b = some ((i : Int), decide (i < l.length ∧ l.getD i 0 = t), ()) ∧ i ≤ l.length ∧ (∀ j, j < i → l.getD j 0 < t) ∧ (∀ j, i ≤ j → j < l.length → t ≤ l.getD j 0) := by
 have done : ∀ a : Nat, a ≤ l.length → (∀ j, j < a → l.getD j 0 < t) → (∀ j, a ≤ j → j < l.length → t ≤ l.getD j 0) → ∃ i : Nat, slices_BinarySearch_int_int.l1 l t (l.length : Int) a a = some ((i : Int), decide (i < l.length ∧ l.getD i 0 = t), ()) ∧ i ≤ l.length ∧ (∀ j, j < i → l.getD j 0 < t) ∧ (∀ j, i ≤ j → j < l.length → t ≤ l.getD j 0) := by
  intro a ha h1 h3
  rw [slices_BinarySearch_int_int.l1_eq]
  refine ⟨a, ?_, ha, h1, h3⟩
  by_cases hc : a < l.length
  ·by_cases he : l.getD a 0 = t
   ·rw [dp (show a < l.length ∧ l.getD a 0 = t from ⟨hc, he⟩)]
    simp (disch := omega) only [ss, cond_true, cond_false, Option.bind_some]
   ·rw [dn (show ¬ (a < l.length ∧ l.getD a 0 = t) from fun q => he q.2)]
    simp (disch := omega) only [ss, cond_true, cond_false, Option.bind_some, nan_int]
  ·rw [dn (show ¬ (a < l.length ∧ l.getD a 0 = t) from fun q => hc q.1)]
   simp (disch := omega) only [ss, cond_true, cond_false, Option.bind_some]
 intro k
 induction k with
 | zero =>
  intro a b hk hab hb h1 h3
  have e : a = b := by omega
  subst e
  exact done a hb h1 h3
 | succ k ih =>
  intro a b hk hab hb h1 h3
  by_cases he : a = b
  ·subst he; exact done a hb h1 h3
  ·rw [slices_BinarySearch_int_int.l1_eq, half (by omega)]
   have hm1 : a ≤ (a + b) / 2 := by omega
   have hm2 : (a + b) / 2 < b := by omega
   generalize (a + b) / 2 = m at hm1 hm2
   simp (disch := omega) only [ss, cond_true, cond_false, Option.bind_some, less_int]
   by_cases hm : l.getD m 0 < t
   ·simp (disch := omega) only [ss, cond_true, cond_false, Option.bind_some]
    refine ih (m + 1) b (by omega) (by omega) hb (fun j hj => ?_) h3
    by_cases hjm : j = m
    ·subst hjm; exact hm
    ·have := rise_get hr (show j < m by omega) (by omega)
     omega
   ·simp (disch := omega) only [ss, cond_true, cond_false, Option.bind_some]
    refine ih a m (by omega) hm1 (by omega) h1 fun j hj1 hj2 => ?_
    by_cases hjm : j = m
    ·subst hjm; omega
    ·have := rise_get hr (show m < j by omega) hj2
     omega
theorem bs_val {l : List Int} (hl : l.length ≤ 1000000) (hr : Rise l) (t : Int) : ∃ i : Nat, slices_BinarySearch_int_int.f l t = some ((i : Int), decide (i < l.length ∧ l.getD i 0 = t), ()) ∧ i ≤ l.length ∧ (t ∈ l → i < l.length ∧ l.getD i 0 = t) := by
 obtain ⟨i, h1, h2, h3, h4⟩ := bs_l1 hl hr t l.length 0 l.length (by omega) (Nat.zero_le _) (Nat.le_refl _) (fun j hj => absurd hj (by omega)) (fun j h1 h2 => absurd h1 (by omega))
 rw [slices_BinarySearch_int_int.f_eq]
 refine ⟨i, h1, h2, fun hm => ?_⟩
 obtain ⟨j, hj, e⟩ := mem_get hm
 have hij : i ≤ j := by
  refine Classical.byContradiction fun c => ?_
  have := h3 j (by omega)
  omega
 by_cases c : i = j
 ·subst c
  exact ⟨hj, e⟩
 ·have := rise_get hr (show i < j by omega) hj
  have := h4 i (Nat.le_refl _) (by omega)
  omega
end Go.GV.YtaeejbmbkejjiaaGreatDoor
namespace Go.GV.YtaeejbmbkejjiaaGreatDoor
open Go.Proofs
section
variable {P : PlT} {r : Rl} {s : Int} {F : Int → Bool} {pr : Int → Int} {h m c : List Int} (hP : PlanOK P r s F pr h m c)
abbrev inP (iv s : Int) (pr : Int → Int) (t : Int) : Prop := Int.tmod (pr t - pr s) iv = 0
def rawP (iv s : Int) (F : Int → Bool) (pr : Int → Int) (h m c : List Int) (t : Int) : Prop := inT t ∧ t % 86400 ∈ tod h m c ∧ inP iv s pr t ∧ F (t / 86400) = true
include hP
theorem in_val (t : Int) (ht : inT t) : member_Plan_in.f P t = some (decide (inP r.2.1 s pr t), ()) := by
 have hv := hP.iv
 rw [member_Plan_in.f_eq, hP.period t ht, hP.er]
 simp (disch := omega) only [ss, cond_true, cond_false, Option.bind_some]
theorem raw_val (t : Int) (ht : inT t) : member_Plan_Raw.f P t = some (ind (rawP r.2.1 s F pr h m c t), ()) := by
 have hD := (mday_spec t (by unfold inT at ht; omega) (by unfold inT at ht; omega)).1
 have hm := mem_tod hP.om.2.1 hP.oc.2.1 (t % 86400) (h := h)
 have lh := hP.oh.2.2
 have lm := hP.om.2.2
 have lc := hP.oc.2.2
 have hs1 : 0 ≤ t % 86400 ∧ t % 86400 ≤ 86399 := by omega
 rw [member_Plan_Raw.f_eq, hD, hP.eh, hP.em, hP.ec]
 unfold rawP
 rw [hm]
 generalize t % 86400 = sec at hs1 ⊢
 have t1 : IntKind.i64.wrap (Int.tdiv sec 3600) = sec / 3600 := by rw [tdn hs1.1, wr (by omega) (by omega)]
 have t2 : Int.tmod (IntKind.i64.wrap (Int.tdiv sec 60)) 60 = sec / 60 % 60 := by rw [tdn hs1.1, wr (by omega) (by omega), tmn (by omega)]
 have t3 : Int.tmod sec 60 = sec % 60 := tmn hs1.1 _
 by_cases c1 : sec / 3600 ∈ h
 ·by_cases c2 : sec / 60 % 60 ∈ m
  ·by_cases c3 : sec % 60 ∈ c
   ·simp (disch := omega) only [ss, cond_true, cond_false, Option.bind_some, t1, t2, t3, contains_int h _ (show h.length ≤ 1000000 by omega), contains_int m _ (show m.length ≤ 1000000 by omega), contains_int c _ (show c.length ≤ 1000000 by omega), dp c1, dp c2, dp c3, in_val hP t ht]
    by_cases c4 : inP r.2.1 s pr t
    ·rw [dp c4, cond_true, member_Plan_Fits.f_eq, hP.fits]
     simp only [Option.bind_some]
     cases hf : F (t / 86400) with
     | true => rw [ind_t ⟨ht, ⟨c1, c2, c3⟩, c4, rfl⟩]
     | false => rw [ind_f (fun q => absurd q.2.2.2 (by simp))]
    ·rw [dn c4, cond_false, ind_f (fun q => c4 q.2.2.1)]
   ·simp (disch := omega) only [ss, cond_true, cond_false, Option.bind_some, t1, t2, t3, contains_int h _ (show h.length ≤ 1000000 by omega), contains_int m _ (show m.length ≤ 1000000 by omega), contains_int c _ (show c.length ≤ 1000000 by omega), dp c1, dp c2, dn c3]
    rw [ind_f (fun q => c3 q.2.1.2.2)]
  ·simp (disch := omega) only [ss, cond_true, cond_false, Option.bind_some, t1, t2, contains_int h _ (show h.length ≤ 1000000 by omega), contains_int m _ (show m.length ≤ 1000000 by omega), dp c1, dn c2]
   rw [ind_f (fun q => c2 q.2.1.2.1)]
 ·simp (disch := omega) only [ss, cond_true, cond_false, Option.bind_some, t1, contains_int h _ (show h.length ≤ 1000000 by omega), dn c1]
  rw [ind_f (fun q => c1 q.2.1.1)]
theorem set_val (t : Int) (ht : inT t) : ∃ G : List Int, Rise G ∧ (∀ x, x ∈ G ↔ rawP r.2.1 s F pr h m c x ∧ pr x = pr t) ∧
  ∀ M : Nat, M ≤ 200000 → member_Plan_Set.f P t M = some (G.take (M + 1), ()) := by
 have hd := inT_day ht
 have hD := (mday_spec t (by unfold inT at ht; omega) (by unfold inT at ht; omega)).1
 have hI := in_val hP t ht
 obtain ⟨A, B, g1, g2, g3, g4⟩ := hP.days t ht
 by_cases c1 : inP r.2.1 s pr t
 ·rw [dp c1] at hI
  have hspan : ∃ lo hi, member_Plan_span.f P t = some (lo, hi, ()) ∧ (0 ≤ lo ∧ lo ≤ 100000) ∧ (0 ≤ hi ∧ hi ≤ 100000) ∧
    ∀ x, inT x → (pr x = pr t ↔ (A ≤ x / 86400 ∧ x / 86400 ≤ B) ∧ lo ≤ x % 86400 ∧ x % 86400 < hi) := by
   have hs1 : 0 ≤ t % 86400 ∧ t % 86400 ≤ 86399 := by omega
   rw [member_Plan_span.f_eq, hD, hP.er]
   by_cases f5 : r.1 = 5
   ·have e : Int.tmod (t % 86400) 3600 = t % 86400 % 3600 := tmn hs1.1 _
    refine ⟨t % 86400 - t % 86400 % 3600, t % 86400 - t % 86400 % 3600 + 3600, by simp (disch := omega) only [ss, cond_true, cond_false, Option.bind_some, e], by omega, by omega, fun x hx => ?_⟩
    have a := g4 (by omega)
    rw [hP.p5 f5 t ht, hP.p5 f5 x hx]
    constructor <;> intro q <;> omega
   ·by_cases f6 : r.1 = 6
    ·have e : Int.tmod (t % 86400) 60 = t % 86400 % 60 := tmn hs1.1 _
     refine ⟨t % 86400 - t % 86400 % 60, t % 86400 - t % 86400 % 60 + 60, by simp (disch := omega) only [ss, cond_true, cond_false, Option.bind_some, e], by omega, by omega, fun x hx => ?_⟩
     have a := g4 (by omega)
     rw [hP.p6 f6 t ht, hP.p6 f6 x hx]
     constructor <;> intro q <;> omega
    ·by_cases f7 : r.1 = 7
     ·refine ⟨t % 86400, t % 86400 + 1, by simp (disch := omega) only [ss, cond_true, cond_false, Option.bind_some], by omega, by omega, fun x hx => ?_⟩
      have a := g4 (by omega)
      rw [hP.p7 f7 t ht, hP.p7 f7 x hx]
      constructor <;> intro q <;> omega
     ·refine ⟨0, 86400, by simp (disch := omega) only [ss, cond_true, cond_false, Option.bind_some], by omega, by omega, fun x hx => ?_⟩
      rw [g3 (by have := hP.fr; omega) x hx]
      constructor <;> intro q <;> omega
  obtain ⟨lo, hi, s1, s2, s3, s4⟩ := hspan
  refine ⟨setF F h m c lo hi (B + 1 - A).toNat A, rise_setF hP.oh.1 hP.om.1 hP.oc.1 hP.oh.2.1 hP.om.2.1 hP.oc.2.1 lo hi _ _, fun x => ?_, fun M hM => ?_⟩
  ·rw [mem_setF hP.oh.2.1 hP.om.2.1 hP.oc.2.1]
   constructor
   ·rintro ⟨q1, q2, q3, q4, q5, q6⟩
    have hx : inT x := by
     unfold inT
     omega
    have hpr := (s4 x hx).2 ⟨⟨by omega, by omega⟩, q5, q6⟩
    refine ⟨⟨hx, q4, ?_, q3⟩, hpr⟩
    unfold inP at c1 ⊢
    rw [hpr]
    exact c1
   ·rintro ⟨⟨hx, q4, _, q3⟩, hpr⟩
    have := (s4 x hx).1 hpr
    exact ⟨by omega, by omega, q3, q4, this.2⟩
  ·rw [member_Plan_Set.f_eq, hI]
   simp only [Option.bind_some, Bool.not_true, cond_false]
   rw [s1]
   simp only [Option.bind_some]
   rw [g1]
   simp only [Option.bind_some]
   exact set_l1 P r s F pr h m c hP lo hi B M hM s2 s3 (by omega) _ A rfl (by omega) [] (Nat.zero_le _)
 ·rw [dn c1] at hI
  refine ⟨[], rise_nil, fun x => ?_, fun M hM => ?_⟩
  ·constructor
   ·intro q
    exact absurd q (by simp)
   ·rintro ⟨⟨_, _, q, _⟩, e⟩
    unfold inP at c1 q
    rw [e] at q
    exact absurd q c1
  ·rw [member_Plan_Set.f_eq, hI]
   rfl
omit hP
def pickP (po : List Int) (l : List Int) (t : Int) : Prop := l.length ≤ 100000 ∧ ∃ i : Nat, i < l.length ∧ l.getD i 0 = t ∧ ((i : Int) + 1 ∈ po ∨ (i : Int) - (l.length : Int) ∈ po)
include hP
theorem picked_val (t : Int) (l : List Int) (hr : Rise l) (hl : l.length ≤ 1000000) : member_Plan_picked.f P t l = some (ind (pickP r.2.2.2.2.2.2.2.2.2.2.2.2.2.2.1 l t), ()) := by
 have lp := hP.lp
 obtain ⟨i, h1, h2, h3⟩ := bs_val hl hr t
 rw [member_Plan_picked.f_eq, h1, hP.er]
 generalize r.2.2.2.2.2.2.2.2.2.2.2.2.2.2.1 = po at lp ⊢
 simp only [Option.bind_some]
 by_cases c1 : i < l.length ∧ l.getD i 0 = t
 ·rw [dp c1, cond_true]
  by_cases c2 : l.length ≤ 100000
  ·have w1 : IntKind.i64.wrap ((i : Int) + 1) = (i : Int) + 1 := wr (by omega) (by omega)
   have w2 : IntKind.i64.wrap ((i : Int) - (l.length : Int)) = (i : Int) - (l.length : Int) := wr (by omega) (by omega)
   rw [dp (show (l.length : Int) ≤ 100000 by omega), cond_true, w1, w2, contains_int po _ (by omega), contains_int po _ (by omega)]
   simp only [Option.bind_some]
   by_cases c3 : (i : Int) + 1 ∈ po
   ·rw [dp c3, cond_true, ind_t ⟨c2, i, c1.1, c1.2, .inl c3⟩]
   ·rw [dn c3, cond_false]
    by_cases c4 : (i : Int) - (l.length : Int) ∈ po
    ·rw [dp c4, ind_t ⟨c2, i, c1.1, c1.2, .inr c4⟩]
    ·rw [dn c4, ind_f]
     rintro ⟨_, j, j1, j2, j3⟩
     have e : i = j := rise_idx hr c1.1 j1 (by rw [c1.2, j2])
     subst e
     rcases j3 with j3 | j3
     ·exact c3 j3
     ·exact c4 j3
  ·rw [dn (show ¬ (l.length : Int) ≤ 100000 by omega), cond_false, ind_f (fun q => c2 q.1)]
 ·rw [dn c1, cond_false, ind_f]
  rintro ⟨_, j, j1, j2, _⟩
  refine c1 (h3 ?_)
  rw [← j2]
  exact get_mem j1
end
def belP (iv un : Int) (en : Bool) (po : List Int) (s : Int) (F : Int → Bool) (pr : Int → Int) (h m c : List Int) (t : Int) : Prop :=
 rawP iv s F pr h m c t ∧ s ≤ t ∧ (en = true → t ≤ un) ∧
  (po = [] ∨ ∃ G : List Int, Rise G ∧ (∀ x, x ∈ G ↔ rawP iv s F pr h m c x ∧ pr x = pr t) ∧ pickP po (G.take 100001) t)
theorem has_val {P : PlT} {r : Rl} {s : Int} {F : Int → Bool} {pr : Int → Int} {h m c : List Int} (hP : PlanOK P r s F pr h m c) (t : Int) (ht : inT t) :
  member_Plan_Has.f P t = some (ind (belP r.2.1 r.2.2.2.1 r.2.2.2.2.2.1 r.2.2.2.2.2.2.2.2.2.2.2.2.2.2.1 s F pr h m c t), ()) := by
 have hno : ∀ b, b = ind (belP r.2.1 r.2.2.2.1 r.2.2.2.2.2.1 r.2.2.2.2.2.2.2.2.2.2.2.2.2.2.1 s F pr h m c t) → (some (b, ()) : Option (Bool × Unit)) = some (ind (belP r.2.1 r.2.2.2.1 r.2.2.2.2.2.1 r.2.2.2.2.2.2.2.2.2.2.2.2.2.2.1 s F pr h m c t), ()) := fun b e => by rw [e]
 rw [member_Plan_Has.f_eq, hP.es]
 by_cases c1 : t < s
 ·rw [dp c1, cond_true, member_Plan_Has.l1_eq, cond_true]
  exact hno _ (ind_f (fun q => by have := q.2.1; omega)).symm
 ·rw [dn c1, cond_false, member_Plan_Past.f_eq, hP.er]
  have hrest : (r.2.2.2.2.2.1 = true → t ≤ r.2.2.2.1) → ((member_Plan_Raw.f P t).bind fun t2 => member_Plan_Has.l1 t (!t2.1) P) = some (ind (belP r.2.1 r.2.2.2.1 r.2.2.2.2.2.1 r.2.2.2.2.2.2.2.2.2.2.2.2.2.2.1 s F pr h m c t), ()) := by
   intro hu
   rw [raw_val hP t ht, Option.bind_some, member_Plan_Has.l1_eq]
   by_cases c2 : rawP r.2.1 s F pr h m c t
   ·rw [ind_t c2, Bool.not_true, cond_false, hP.er]
    by_cases c3 : r.2.2.2.2.2.2.2.2.2.2.2.2.2.2.1 = []
    ·rw [dp (show (r.2.2.2.2.2.2.2.2.2.2.2.2.2.2.1.length : Int) = 0 by rw [c3]; rfl), cond_true]
     exact hno _ (ind_t ⟨c2, by omega, hu, .inl c3⟩).symm
    ·have := ne_len.1 c3
     obtain ⟨G, G1, G2, G3⟩ := set_val hP t ht
     have hS := G3 100000 (by omega)
     have hS : member_Plan_Set.f P t 100000 = some (G.take 100001, ()) := hS
     have hlen : (G.take 100001).length ≤ 1000000 := by rw [List.length_take]; omega
     rw [dn (show ¬ (r.2.2.2.2.2.2.2.2.2.2.2.2.2.2.1.length : Int) = 0 by omega), cond_false, hS]
     simp only [Option.bind_some]
     rw [picked_val hP t _ (rise_take G1 _) hlen]
     refine hno _ ?_
     by_cases c4 : pickP r.2.2.2.2.2.2.2.2.2.2.2.2.2.2.1 (G.take 100001) t
     ·rw [ind_t c4, ind_t ⟨c2, by omega, hu, .inr ⟨G, G1, G2, c4⟩⟩]
     ·rw [ind_f c4, ind_f]
      rintro ⟨_, _, _, q | ⟨G', g1, g2, g3⟩⟩
      ·exact c3 q
      ·have e : G' = G := rise_ext g1 G1 fun x => by rw [g2, G2]
       rw [e] at g3
       exact c4 g3
   ·rw [ind_f c2, Bool.not_false, cond_true]
    exact hno _ (ind_f (fun q => c2 q.1)).symm
  cases hen : r.2.2.2.2.2.1 with
  | false =>
   rw [hen] at hrest
   rw [cond_false]
   exact hrest (fun q => by cases q)
  | true =>
   rw [hen] at hrest hno
   rw [cond_true, Option.bind_some]
   by_cases c2 : t > r.2.2.2.1
   ·rw [dp c2, cond_true, member_Plan_Has.l1_eq, cond_true]
    exact hno _ (ind_f (fun q => by have := q.2.2.1 rfl; omega)).symm
   ·rw [dn c2, cond_false]
    exact hrest (fun _ => by omega)
theorem may2 (t : Int) : stamp_May.f t = some (decide (inT t), ()) := (may_mo t).1
section
variable {P : PlT} {r : Rl} {s : Int} {F : Int → Bool} {pr : Int → Int} {h m c : List Int} (hP : PlanOK P r s F pr h m c) (hMk : member_Make.f r s = some (P, true, ()))
include hP hMk
theorem pHas (t : Int) : member_Has.f r s t = some (ind (belP r.2.1 r.2.2.2.1 r.2.2.2.2.2.1 r.2.2.2.2.2.2.2.2.2.2.2.2.2.2.1 s F pr h m c t), ()) := by
 rw [member_Has.f_eq, hMk, may2]
 by_cases c : inT t
 ·simp (disch := omega) only [ss, cond_true, cond_false, Option.bind_some, dp c, has_val hP t c]
 ·rw [dn c, ind_f (fun q => c q.1.1)]
  rfl
theorem pRaw (t : Int) : member_Raw.f r s t = some (ind (rawP r.2.1 s F pr h m c t), ()) := by
 rw [member_Raw.f_eq, hMk, may2]
 by_cases c : inT t
 ·simp (disch := omega) only [ss, cond_true, cond_false, Option.bind_some, dp c, raw_val hP t c]
 ·rw [dn c, ind_f (fun q => c q.1)]
  rfl
theorem pPer (t : Int) (ht : inT t) : days_Period.f r s t = some (pr t - pr s, true, ()) := by
 have _ := hMk
 rw [days_Period.f_eq, hP.dmk]
 simp (disch := omega) only [ss, cond_true, cond_false, Option.bind_some, may2, dp ht, hP.period t ht]
theorem pPer_no (t : Int) (ht : ¬ inT t) : days_Period.f r s t = some (0, false, ()) := by
 have _ := hMk
 rw [days_Period.f_eq, hP.dmk]
 simp (disch := omega) only [ss, cond_true, cond_false, Option.bind_some, may2, dn ht]
theorem pSet (t : Int) : (inT t → ∃ G : List Int, Rise G ∧ (∀ x, x ∈ G ↔ rawP r.2.1 s F pr h m c x ∧ pr x = pr t) ∧
  ∀ M : Nat, 1 ≤ M → M ≤ 100000 → member_Set.f r s t M = some (if G.length ≤ M then (G, 0, ()) else ([], 10, ()))) ∧ (¬ inT t → ∀ M : Nat, member_Set.f r s t M = some ([], 1, ())) := by
 constructor
 ·intro ht
  obtain ⟨G, G1, G2, G3⟩ := set_val hP t ht
  refine ⟨G, G1, G2, fun M h1 h2 => ?_⟩
  have hlen : (G.take (M + 1)).length = min (M + 1) G.length := List.length_take
  rw [member_Set.f_eq, hMk, may2, dp ht]
  by_cases c : G.length ≤ M
  ·rw [if_pos c]
   rw [List.take_of_length_le (show G.length ≤ M + 1 by omega)] at hlen
   have e : G.take (M + 1) = G := List.take_of_length_le (by omega)
   have g := G3 M (by omega)
   rw [e] at g
   simp (disch := omega) only [ss, cond_true, cond_false, Option.bind_some, g]
  ·rw [if_neg c]
   simp (disch := omega) only [ss, cond_true, cond_false, Option.bind_some, G3 M (by omega), hlen]
 ·intro ht M
  rw [member_Set.f_eq, hMk, may2, dn ht]
  rfl
end
section
variable {r : Rl} {s : Int} {P : PlT} (hMk : member_Make.f r s = some (P, false, ()))
include hMk
theorem noHas (t : Int) : member_Has.f r s t = some (false, ()) := by
 rw [member_Has.f_eq, hMk]
 rfl
theorem noRaw (t : Int) : member_Raw.f r s t = some (false, ()) := by
 rw [member_Raw.f_eq, hMk]
 rfl
theorem noSet (t M : Int) : member_Set.f r s t M = some ([], 1, ()) := by
 rw [member_Set.f_eq, hMk]
 rfl
end
section
variable {f iv ct un wkst : Int} {en : Bool} {mo we yd md : List Int} {dy : List Dy} {ho mi se po : List Int} {P : PlT} {s : Int} {F : Int → Bool} {pr : Int → Int} {h m c : List Int} (hP : PlanOK P (f, iv, ct, un, wkst, en, mo, we, yd, md, dy, ho, mi, se, po, ()) s F pr h m c) (hMk : member_Make.f (f, iv, ct, un, wkst, en, mo, we, yd, md, dy, ho, mi, se, po, ()) s = some (P, true, ()))
include hP hMk
theorem qHas (t : Int) : member_Has.f (f, iv, ct, un, wkst, en, mo, we, yd, md, dy, ho, mi, se, po, ()) s t = some (ind (belP iv un en po s F pr h m c t), ()) := pHas hP hMk t
theorem qRaw (t : Int) : member_Raw.f (f, iv, ct, un, wkst, en, mo, we, yd, md, dy, ho, mi, se, po, ()) s t = some (ind (rawP iv s F pr h m c t), ()) := pRaw hP hMk t
theorem qSet (t : Int) : (inT t → ∃ G : List Int, Rise G ∧ (∀ x, x ∈ G ↔ rawP iv s F pr h m c x ∧ pr x = pr t) ∧
  ∀ M : Nat, 1 ≤ M → M ≤ 100000 → member_Set.f (f, iv, ct, un, wkst, en, mo, we, yd, md, dy, ho, mi, se, po, ()) s t M = some (if G.length ≤ M then (G, 0, ()) else ([], 10, ()))) ∧ (¬ inT t → ∀ M : Nat, member_Set.f (f, iv, ct, un, wkst, en, mo, we, yd, md, dy, ho, mi, se, po, ()) s t M = some ([], 1, ())) := pSet hP hMk t
end
end Go.GV.YtaeejbmbkejjiaaGreatDoor
namespace Go.GV.YtaeejbmbkejjiaaGreatDoor
open Go.Proofs
abbrev wRule : Rl := (2, 1, 0, 0, 0, false, [], [], [], [], [(0, 0, ()), (0, 1, ()), (0, 2, ()), (0, 3, ()), (0, 4, ())], [], [], [], [-1], ())
set_option maxRecDepth 1000000 in
theorem parse1 : rule_Parse.f ⟨#[70, 82, 69, 81, 61, 77, 79, 78, 84, 72, 76, 89, 59, 66, 89, 68, 65, 89, 61, 77, 79, 44, 84, 85, 44, 87, 69, 44, 84, 72, 44, 70, 82, 59, 66, 89, 83, 69, 84, 80, 79, 83, 61, 45, 49]⟩ = some (wRule, 0, 0, ()) := rn_closed (E := E) (f := 19) rfl (D := c19) (c := b19) (by kernel_rfl) (by kernel_rfl) _ 400 (by kernel_rfl)
set_option maxRecDepth 1000000 in
theorem sp1 : stamp_Parse.f ⟨#[50, 48, 50, 54, 48, 49, 51, 48, 84, 48, 57, 48, 48, 48, 48]⟩ = some (1769763600, 0, ()) := rn_closed (E := E) (f := 20) rfl (D := c20) (c := b20) (by kernel_rfl) (by kernel_rfl) _ 400 (by kernel_rfl)
set_option maxRecDepth 1000000 in
theorem sp2 : stamp_Parse.f ⟨#[50, 48, 50, 54, 48, 50, 50, 55, 84, 48, 57, 48, 48, 48, 48]⟩ = some (1772182800, 0, ()) := rn_closed (E := E) (f := 20) rfl (D := c20) (c := b20) (by kernel_rfl) (by kernel_rfl) _ 400 (by kernel_rfl)
set_option maxRecDepth 1000000 in
theorem sp3 : stamp_Parse.f ⟨#[50, 48, 50, 54, 48, 50, 50, 54, 84, 48, 57, 48, 48, 48, 48]⟩ = some (1772096400, 0, ()) := rn_closed (E := E) (f := 20) rfl (D := c20) (c := b20) (by kernel_rfl) (by kernel_rfl) _ 400 (by kernel_rfl)
set_option maxRecDepth 1000000 in
theorem raw1 : member_Raw.f wRule 1769763600 1772096400 = some (true, ()) := rn_closed (E := E) (f := 12) rfl (D := c12) (c := b12) (by kernel_rfl) (by kernel_rfl) _ 400 (by kernel_rfl)
set_option maxRecDepth 1000000 in
theorem raw2 : member_Raw.f wRule 1769763600 1772182800 = some (true, ()) := rn_closed (E := E) (f := 12) rfl (D := c12) (c := b12) (by kernel_rfl) (by kernel_rfl) _ 400 (by kernel_rfl)
set_option maxRecDepth 1000000 in
theorem raw3 : member_Raw.f wRule 1769763600 1772269200 = some (false, ()) := rn_closed (E := E) (f := 12) rfl (D := c12) (c := b12) (by kernel_rfl) (by kernel_rfl) _ 400 (by kernel_rfl)
end Go.GV.YtaeejbmbkejjiaaGreatDoor
namespace Go.GV.YtaeejbmbkejjiaaGreatDoor
open Go.Proofs
theorem light_some (r : Rl) (s : Int) : ∃ b, voklaw7_Light.f r s = some (b, ()) ∧ (b = true → shortR r) := by
 obtain ⟨b, hb, hsh⟩ := few_some r
 rw [voklaw7_Light.f_eq, hb, Option.bind_some]
 cases b with
 | false => exact ⟨false, rfl, fun q => by cases q⟩
 | true =>
  rw [cond_true]
  have hr := hsh rfl
  obtain ⟨bm, hm⟩ := may_some r hr
  rw [hm, Option.bind_some]
  cases bm with
  | false => exact ⟨true, rfl, fun _ => hr⟩
  | true =>
   rw [Bool.not_true, cond_false]
   by_cases c : r.1 > 4
   ·rw [dp c, cond_true]
    exact ⟨true, rfl, fun _ => hr⟩
   ·obtain ⟨k, hk⟩ := cost_some r s 370 hr
    rw [dn c, cond_false, hk]
    exact ⟨_, rfl, fun _ => hr⟩
end Go.GV.YtaeejbmbkejjiaaGreatDoor
namespace Go.GV.YtaeejbmbkejjiaaGreatDoor
open Go.Proofs
theorem rise_len : ∀ {l : List Int}, Rise l → ∀ {a b : Int}, (∀ x, x ∈ l → a ≤ x ∧ x ≤ b) → l.length ≤ (b + 1 - a).toNat
 | [], _, _, _, _ => Nat.zero_le _
 | x :: l, hr, a, b, h => by
  have h0 := h x (List.mem_cons_self ..)
  have := rise_len (rise_cons.1 hr).2 (a := x + 1) (b := b) fun y hy => by
   have := h y (List.mem_cons_of_mem _ hy)
   have := (rise_cons.1 hr).1 y hy
   omega
  rw [List.length_cons]
  omega
theorem per_month {we : List Int} {w t n y m d : Int} (e : t / 86400 = n) (h : isDate n y m d) : per 2 w we t = 12 * y + m := by
 refine (per_eq ?_).symm
 rw [isPer, e]
 exact .inl ⟨by omega, .inr (.inr (.inl ⟨rfl, y, m, d, h, rfl⟩))⟩
theorem wHas : member_Has.f wRule 1769763600 1772182800 = some (true, ()) ∧ member_Has.f wRule 1769763600 1772096400 = some (false, ()) := by
 have hr : shortR wRule := by
  unfold shortR short
  simp
 obtain ⟨bm, hm⟩ := may_some wRule hr
 have hs : inT 1769763600 := by unfold inT; omega
 have hb : bm = true := by
  refine Classical.byContradiction fun q => ?_
  obtain ⟨P, hMk⟩ := plan_no wRule 1769763600 bm hm (fun z => q z.1)
  have := noRaw hMk 1772096400
  rw [raw1] at this
  cases this
 subst hb
 obtain ⟨P, hMk, hP⟩ := plan_ok 2 1 0 0 0 false [] [] [] [] [(0, 0, ()), (0, 1, ()), (0, 2, ()), (0, 3, ()), (0, 4, ())] [] [] [] [-1] 1769763600 hr hm hs
 have h1 := qHas hP hMk 1772182800
 have h2 := qHas hP hMk 1772096400
 have q1 := qRaw hP hMk 1772096400
 have q2 := qRaw hP hMk 1772182800
 have q3 := qRaw hP hMk 1772269200
 rw [raw1] at q1
 rw [raw2] at q2
 rw [raw3] at q3
 have q1 : true = ind _ := congrArg Prod.fst (Option.some.inj q1)
 have q2 : true = ind _ := congrArg Prod.fst (Option.some.inj q2)
 have q3 : false = ind _ := congrArg Prod.fst (Option.some.inj q3)
 have q1 := ind_iff.1 q1.symm
 have q2 := ind_iff.1 q2.symm
 have e1 : per 2 0 [] 1772182800 = 24314 := per_month (n := 20511) (y := 2026) (m := 2) (d := 27) (by omega) (by unfold isDate; decide)
 have e2 : per 2 0 [] 1772096400 = 24314 := per_month (n := 20510) (y := 2026) (m := 2) (d := 26) (by omega) (by unfold isDate; decide)
 have e3 : per 2 0 [] 1772323200 = 24315 := per_month (n := 20513) (y := 2026) (m := 3) (d := 1) (by omega) (by unfold isDate; decide)
 have e4 : per 2 0 [] 1769903999 = 24313 := per_month (n := 20484) (y := 2026) (m := 1) (d := 31) (by omega) (by unfold isDate; decide)
 have tod9 : ∀ x : Int, x % 86400 ∈ tod (hoursL 2 [] 1769763600) (minsL 2 [] 1769763600) (secsL 2 [] 1769763600) → x % 86400 = 32400 := fun x hx => by
  have := (mem_tod (h := hoursL 2 [] 1769763600) (m := minsL 2 [] 1769763600) (c := secsL 2 [] 1769763600) hP.om.2.1 hP.oc.2.1 _).1 hx
  have a1 : hoursL 2 [] 1769763600 = [9] := by decide
  have a2 : minsL 2 [] 1769763600 = [0] := by decide
  have a3 : secsL 2 [] 1769763600 = [0] := by decide
  rw [a1, a2, a3] at this
  simp only [List.mem_singleton] at this
  omega
 refine ⟨?_, ?_⟩
 ·rw [h1, ind_t]
  refine ⟨q2, by omega, (fun q => by cases q), .inr ?_⟩
  obtain ⟨G, G1, G2, _⟩ := set_val hP 1772182800 (by unfold inT; omega)
  refine ⟨G, G1, G2, ?_⟩
  have hin : ∀ x, x ∈ G → 20485 ≤ x / 86400 ∧ x / 86400 ≤ 20511 ∧ x % 86400 = 32400 := fun x hx => by
   obtain ⟨g1, g2⟩ := (G2 x).1 hx
   have g3 := tod9 x g1.2.1
   rw [e1] at g2
   have u : ¬ 1772323200 ≤ x := fun z => by
    have := hP.mono 1772323200 x (by unfold inT; omega) g1.1 z
    omega
   have v : ¬ x ≤ 1769903999 := fun z => by
    have := hP.mono x 1769903999 g1.1 (by unfold inT; omega) z
    omega
   have w : x ≠ 1772269200 := fun z => by
    rw [z] at g1
    rw [ind_t g1] at q3
    cases q3
   omega
  have hlen : G.length ≤ 100 := by
   have hmap : Rise (G.map fun x => x / 86400) := by
    unfold Rise
    rw [List.pairwise_map]
    refine List.Pairwise.imp_of_mem (fun {a b} ha hb h => ?_) G1
    have := hin a ha
    have := hin b hb
    omega
   have := rise_len hmap (a := 20485) (b := 20511) fun y hy => by
    obtain ⟨x, hx, e⟩ := List.mem_map.1 hy
    have := hin x hx
    omega
   rw [List.length_map] at this
   omega
  rw [List.take_of_length_le (by omega)]
  have hmem : (1772182800 : Int) ∈ G := (G2 _).2 ⟨q2, rfl⟩
  obtain ⟨i, hi, e⟩ := mem_get hmem
  refine ⟨by omega, i, hi, e, .inr ?_⟩
  by_cases c : i + 1 < G.length
  ·have := rise_get G1 (show i < i + 1 by omega) c
   have := hin _ (get_mem c)
   omega
  ·have : (i : Int) - (G.length : Int) = -1 := by omega
   rw [this]
   exact List.mem_singleton.2 rfl
 ·rw [h2, ind_f]
  rintro ⟨_, _, _, q | ⟨G, G1, G2, g, i, hi, e, hq⟩⟩
  ·cases q
  ·have hlen : (G.take 100001).length = min 100001 G.length := List.length_take
   rw [List.take_of_length_le (show G.length ≤ 100001 by omega)] at hi e hq hlen
   have hmem : (1772182800 : Int) ∈ G := (G2 _).2 ⟨q2, by rw [e1, e2]⟩
   obtain ⟨j, hj, e'⟩ := mem_get hmem
   have hij : i < j := by
    refine Classical.byContradiction fun c => ?_
    by_cases c2 : i = j
    ·subst c2
     omega
    ·have := rise_get G1 (show j < i by omega) hi
     omega
   rcases hq with hq | hq
   ·have := List.mem_singleton.1 hq
    omega
   ·have := List.mem_singleton.1 hq
    omega
theorem first_true : voklaw7_first.f = some (true, ()) := by
 rw [voklaw7_first.f_eq, parse1, sp1, sp2, sp3]
 simp only [Option.bind_some]
 rw [wHas.1, wHas.2, raw1]
 rfl
end Go.GV.YtaeejbmbkejjiaaGreatDoor
