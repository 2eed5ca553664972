/-
Part of the words that the laws of this seat are proved with: no statement of its own, no conditions.
-/
import Derived.Test.YtdnpbkbklnkjoaaGreatDoorZ17
set_option linter.unusedVariables false
set_option linter.unusedSimpArgs false
namespace Go.GV
theorem wr {x : Int} (h1 : -9223372036854775808 ≤ x) (h2 : x ≤ 9223372036854775807) : IntKind.i64.wrap x = x := Go.IntWalk.i64_in x ⟨h1, h2⟩
theorem wr_nat {n : Nat} (h : n < 9223372036854775807) : IntKind.i64.wrap ((n : Int) + 1) = ((n + 1 : Nat) : Int) := by rw [wr (by omega) (by omega)]; omega
theorem dp {p : Prop} [Decidable p] (h : p) : decide p = true := decide_eq_true h
theorem dn {p : Prop} [Decidable p] (h : ¬ p) : decide p = false := decide_eq_false h
theorem tn_add (n m : Nat) : ((n : Int) + (m : Int)).toNat = n + m := by omega
theorem tn_add1 (n : Nat) : ((n : Int) + 1).toNat = n + 1 := by omega
theorem tn_sub1 (n : Nat) : ((n : Int) - 1).toNat = n - 1 := by omega
theorem tn_0 : (0 : Int).toNat = 0 := rfl
theorem tn_1 : (1 : Int).toNat = 1 := rfl
theorem ss : (∀ (p : Prop) [Decidable p], p → decide p = true) ∧ (∀ (p : Prop) [Decidable p], ¬ p → decide p = false) ∧ (∀ (h : Decidable True), @decide True h = true) ∧ (∀ (h : Decidable False), @decide False h = false) ∧
  ((!true) = false) ∧ ((!false) = true) ∧ (∀ b, (true && b) = b) ∧ (∀ b, (false && b) = false) ∧ (∀ b, (b && true) = b) ∧ (∀ b, (b && false) = false) ∧
  (∀ b, (true || b) = true) ∧ (∀ b, (false || b) = b) ∧ (∀ b, (b || true) = true) ∧ (∀ b, (b || false) = b) ∧ (∀ (x : Int), -9223372036854775808 ≤ x → x ≤ 9223372036854775807 → IntKind.i64.wrap x = x) ∧
  (∀ n m : Nat, ((n : Int) + (m : Int)).toNat = n + m) ∧ (∀ n : Nat, ((n : Int) + 1).toNat = n + 1) ∧ (∀ n : Nat, ((n : Int) - 1).toNat = n - 1) ∧ ((0 : Int).toNat = 0) ∧ ((1 : Int).toNat = 1) ∧ (∀ n : Nat, (n : Int).toNat = n) :=
 ⟨fun _ => dp, fun _ => dn, fun _ => decide_true _, fun _ => decide_false _, rfl, rfl, Bool.true_and, Bool.false_and, Bool.and_true, Bool.and_false, Bool.true_or, Bool.false_or, Bool.or_true, Bool.or_false, fun _ => wr, tn_add, tn_add1, tn_sub1, tn_0, tn_1, fun _ => rfl⟩
abbrev B (s : ByteArray) : List UInt8 := s.data.toList
theorem getD_app_left {α : Type} (a b : List α) (i : Nat) (d : α) (h : i < a.length) : (a ++ b).getD i d = a.getD i d := by
 simp [List.getD_eq_getElem?_getD, List.getElem?_append_left h]
def I (l : List UInt8) : List Int := l.map fun b => (b.toNat : Int)
theorem okI {a : List Int} (h : ∀ x ∈ a, okInt .u8 x) : a = I (a.map fun n => UInt8.ofNat n.toNat) := by
 simp only [I, List.map_map]
 refine (List.map_id a).symm.trans (List.map_congr_left fun x hx => ?_)
 have h1 := h x hx
 simp only [okInt] at h1
 have h2 : (0 : Int) ≤ x ∧ x ≤ 255 := h1
 simp only [Function.comp, id, UInt8.toNat_ofNat']
 omega
theorem map_getD {α β : Type} (f : α → β) (l : List α) (i : Nat) (d : α) (e : β) (h : i < l.length) : (l.map f).getD i e = f (l.getD i d) := by
 simp [List.getD_eq_getElem?_getD, h]
theorem drop_cons {α : Type} (l : List α) (i : Nat) (d : α) (h : i < l.length) : l.drop i = l.getD i d :: l.drop (i + 1) := by
 rw [List.getD_eq_getElem?_getD, List.getElem?_eq_getElem h, Option.getD_some]
 exact List.drop_eq_getElem_cons h
end Go.GV
namespace Go.GV
theorem len_snoc {α : Type} (o : List α) (p : α) : (o ++ [p]).length = o.length + 1 := by simp
theorem wr_sub1 {n : Nat} (h0 : 0 < n) (h : n < 4611686018427387904) : IntKind.i64.wrap ((n : Int) - 1) = ((n - 1 : Nat) : Int) := by rw [wr (by omega) (by omega)]; omega
theorem wr_succ {n : Nat} (h : n < 4611686018427387904) : IntKind.i64.wrap ((n : Int) + 1) = ((n + 1 : Nat) : Int) := wr_nat (by omega)
theorem getD_eq {α : Type} {l : List α} {i : Nat} (z : α) (h : i < l.length) : l.getD i z = l[i] := by simp [List.getD_eq_getElem?_getD, h]
theorem drop_getD' {α : Type} {l : List α} {i : Nat} (z : α) (h : i < l.length) : l.drop i = l.getD i z :: l.drop (i + 1) := drop_cons l i z h
theorem mm_max (a b : Int) : mm true a b = max a b := by
 unfold mm
 simp only [cond_true]
 split <;> omega
theorem mm_min (a b : Int) : mm false a b = min a b := by
 unfold mm
 simp only [cond_false]
 split <;> omega
end Go.GV
namespace Go.GV.YtdnpbkbklnkjoaaGreatDoor
open Go.Proofs
def leapB (y : Int) : Bool := decide (y % 4 = 0) && (!decide (y % 100 = 0) || decide (y % 400 = 0))
def mlen (y m : Int) : Int := if m = 2 then (if leapB y = true then 29 else 28) else if m = 4 ∨ m = 6 ∨ m = 9 ∨ m = 11 then 30 else if 1 ≤ m ∧ m ≤ 12 then 31 else 0
def cumT (m : Int) : Int := if m ≤ 1 then 0 else if m = 2 then 31 else if m = 3 then 59 else if m = 4 then 90 else if m = 5 then 120 else if m = 6 then 151 else if m = 7 then 181 else if m = 8 then 212 else if m = 9 then 243 else if m = 10 then 273 else if m = 11 then 304 else if m = 12 then 334 else 365
def cum (y m : Int) : Int := cumT m + if 3 ≤ m ∧ leapB y = true then 1 else 0
def fst_ (y : Int) : Int := 365 * (y - 1) + (y - 1) / 4 - (y - 1) / 100 + (y - 1) / 400 - 719162
theorem tmn {n : Int} (h : 0 ≤ n) (k : Int) : Int.tmod n k = n % k := Int.tmod_eq_emod_of_nonneg h
theorem tdn {n : Int} (h : 0 ≤ n) (k : Int) : Int.tdiv n k = n / k := Int.tdiv_eq_ediv_of_nonneg h
theorem leap_spec (y : Int) (hy : 0 ≤ y) : civil_Leap.f y = some (leapB y, ()) := by
 rw [civil_Leap.f_eq]
 simp only [tmn hy]
 unfold leapB
 by_cases h1 : y % 4 = 0
 ·by_cases h2 : y % 100 = 0
  ·by_cases h3 : y % 400 = 0
   ·simp (disch := omega) only [ss, cond_true, cond_false, Option.bind_some]
   ·simp (disch := omega) only [ss, cond_true, cond_false, Option.bind_some]
  ·simp (disch := omega) only [ss, cond_true, cond_false, Option.bind_some]
 ·simp (disch := omega) only [ss, cond_true, cond_false, Option.bind_some]
theorem length_spec (y m : Int) (hy : 0 ≤ y) : civil_Length.f y m = some (mlen y m, ()) := by
 have hL := leap_spec y hy
 rw [civil_Length.f_eq]
 unfold mlen
 by_cases h2 : m = 2
 ·subst h2
  simp (disch := omega) only [ss, cond_true, cond_false, Option.bind_some, civil_Length.l1_eq, hL]
  cases leapB y <;> rfl
 ·rw [if_neg h2]
  by_cases h4 : m = 4 ∨ m = 6 ∨ m = 9 ∨ m = 11
  ·rw [if_pos h4]
   rcases h4 with rfl | rfl | rfl | rfl
   all_goals (simp (disch := omega) only [ss, cond_true, cond_false, Option.bind_some, civil_Length.l1_eq])
  ·rw [if_neg h4]
   by_cases hr : 1 ≤ m ∧ m ≤ 12
   ·rw [if_pos hr]
    have : m = 1 ∨ m = 3 ∨ m = 5 ∨ m = 7 ∨ m = 8 ∨ m = 10 ∨ m = 12 := by omega
    rcases this with rfl | rfl | rfl | rfl | rfl | rfl | rfl
    all_goals (simp (disch := omega) only [ss, cond_true, cond_false, Option.bind_some, civil_Length.l1_eq, civil_Length.l2_eq])
   ·rw [if_neg hr]
    simp (disch := omega) only [ss, cond_true, cond_false, Option.bind_some, civil_Length.l1_eq, civil_Length.l2_eq]
theorem mlen_bd (y m : Int) : 0 ≤ mlen y m ∧ mlen y m ≤ 31 ∧ (0 < mlen y m → 1 ≤ m ∧ m ≤ 12) := by
 unfold mlen
 split
 ·cases leapB y <;> (simp; omega)
 ·split
  ·omega
  ·split <;> omega
theorem cum_succ (y m : Int) (h1 : 1 ≤ m) (h2 : m ≤ 12) : cum y (m + 1) = cum y m + mlen y m := by
 have : m = 1 ∨ m = 2 ∨ m = 3 ∨ m = 4 ∨ m = 5 ∨ m = 6 ∨ m = 7 ∨ m = 8 ∨ m = 9 ∨ m = 10 ∨ m = 11 ∨ m = 12 := by omega
 unfold cum mlen cumT
 cases leapB y <;> (rcases this with rfl | rfl | rfl | rfl | rfl | rfl | rfl | rfl | rfl | rfl | rfl | rfl <;> simp)
theorem cum_bd (y m : Int) : 0 ≤ cum y m ∧ cum y m ≤ 366 := by
 unfold cum cumT
 split <;> (try split) <;> (repeat' split) <;> omega
def validB (y m d : Int) : Bool := decide (1 ≤ y) && decide (y ≤ 9999) && decide (1 ≤ d) && decide (d ≤ mlen y m)
theorem valid_spec (y m d : Int) : civil_Valid.f y m d = some (validB y m d, ()) := by
 rw [civil_Valid.f_eq, civil_year.f_eq]
 unfold validB
 by_cases h1 : 1 ≤ y
 ·have hL := length_spec y m (by omega)
  by_cases h2 : y ≤ 9999
  ·by_cases h3 : 1 ≤ d
   ·simp (disch := omega) only [ss, cond_true, cond_false, Option.bind_some, hL, ge_iff_le]
   ·simp (disch := omega) only [ss, cond_true, cond_false, Option.bind_some, hL, ge_iff_le]
  ·simp (disch := omega) only [ss, cond_true, cond_false, Option.bind_some, ge_iff_le]
 ·simp (disch := omega) only [ss, cond_true, cond_false, Option.bind_some, ge_iff_le]
theorem number_civil (y m d : Int) (hy : 1 ≤ y) (hy2 : y ≤ 10000) (hm : 1 ≤ m) (hm2 : m ≤ 12) (hd : 1 ≤ d) (hd2 : d ≤ 31) : civil_number.f y m d = some (fst_ y + d - 1 + cum y m, ()) := by
 rw [civil_number.f_eq]
 by_cases h3 : m < 3
 ·simp (disch := omega) only [ss, cond_true, cond_false, Option.bind_some, tdn (show 0 ≤ y - 1 + 400 by omega), tdn (show 0 ≤ 153 * (m + 12 - 3) + 2 by omega)]
  congr 2
  unfold fst_ cum cumT
  have : m = 1 ∨ m = 2 := by omega
  rcases this with rfl | rfl
  ·simp
   omega
  ·simp
   omega
 ·simp (disch := omega) only [ss, cond_true, cond_false, Option.bind_some, tdn (show 0 ≤ y + 400 by omega), tdn (show 0 ≤ 153 * (m - 3) + 2 by omega)]
  congr 2
  unfold fst_ cum cumT
  have e : (if 3 ≤ m ∧ leapB y = true then (1 : Int) else 0) = y / 4 - (y - 1) / 4 - (y / 100 - (y - 1) / 100) + (y / 400 - (y - 1) / 400) := by
   unfold leapB
   by_cases h1 : y % 4 = 0
   ·by_cases h2 : y % 100 = 0
    ·by_cases h5 : y % 400 = 0
     ·rw [if_pos ⟨by omega, by simp [h1, h2, h5]⟩]; omega
     ·rw [if_neg (by simp [h1, h2, h5])]; omega
    ·rw [if_pos ⟨by omega, by simp [h1, h2]⟩]; omega
   ·rw [if_neg (by simp [h1])]; omega
  rw [e]
  have : m = 3 ∨ m = 4 ∨ m = 5 ∨ m = 6 ∨ m = 7 ∨ m = 8 ∨ m = 9 ∨ m = 10 ∨ m = 11 ∨ m = 12 := by omega
  rcases this with rfl | rfl | rfl | rfl | rfl | rfl | rfl | rfl | rfl | rfl
  all_goals (simp; omega)
theorem fst_bd (y : Int) (hy : 1 ≤ y) (hy2 : y ≤ 10001) : -1000000 ≤ fst_ y ∧ fst_ y ≤ 4000000 := by
 unfold fst_
 omega
theorem days_spec (y m d : Int) : civil_Days.f y m d = some (if validB y m d = true then (fst_ y + d - 1 + cum y m, 0, ()) else (0, 1, ())) := by
 have h1 := valid_spec y m d
 rw [civil_Days.f_eq, h1]
 cases hv : validB y m d with
 | false => rfl
 | true =>
  unfold validB at hv
  simp only [Bool.and_eq_true, decide_eq_true_eq] at hv
  obtain ⟨⟨⟨h3, h4⟩, h5⟩, h6⟩ := hv
  have hb := mlen_bd y m
  have hm := hb.2.2 (by omega)
  have hN := number_civil y m d h3 (by omega) hm.1 hm.2 h5 (by omega)
  have hfb := fst_bd y h3 (by omega)
  have hcb := cum_bd y m
  rw [if_pos rfl]
  simp (disch := omega) only [ss, cond_true, cond_false, Option.bind_some, hN]
end Go.GV.YtdnpbkbklnkjoaaGreatDoor
namespace Go.GV.YtdnpbkbklnkjoaaGreatDoor
open Go.Proofs
theorem fst_step (y : Int) (hy : 1 ≤ y) : fst_ (y + 1) = fst_ y + cum y 13 := by
 unfold fst_ cum cumT
 have e : (if 3 ≤ (13 : Int) ∧ leapB y = true then (1 : Int) else 0) = y / 4 - (y - 1) / 4 - (y / 100 - (y - 1) / 100) + (y / 400 - (y - 1) / 400) := by
  unfold leapB
  by_cases h1 : y % 4 = 0
  ·by_cases h2 : y % 100 = 0
   ·by_cases h5 : y % 400 = 0
    ·rw [if_pos ⟨by omega, by simp [h1, h2, h5]⟩]; omega
    ·rw [if_neg (by simp [h1, h2, h5])]; omega
   ·rw [if_pos ⟨by omega, by simp [h1, h2]⟩]; omega
  ·rw [if_neg (by simp [h1])]; omega
 rw [e]
 simp
 omega
theorem cum13 (y : Int) : 365 ≤ cum y 13 ∧ cum y 13 ≤ 366 := by
 unfold cum cumT
 split <;> (simp; try omega)
theorem fst_mono {a b : Int} (h0 : 1 ≤ a) (h : a < b) : fst_ a + 365 ≤ fst_ b := by
 obtain ⟨k, hk⟩ := Int.eq_ofNat_of_zero_le (show 0 ≤ b - a - 1 by omega)
 have e : b = a + 1 + (k : Int) := by omega
 subst e
 clear hk h
 induction k with
 | zero =>
  have := fst_step a h0
  have := cum13 a
  simp
  omega
 | succ k ih =>
  have := fst_step (a + 1 + (k : Int)) (by omega)
  have := cum13 (a + 1 + (k : Int))
  rw [show a + 1 + ((k + 1 : Nat) : Int) = a + 1 + (k : Int) + 1 by omega]
  omega
theorem fst_mono' {a b : Int} (h0 : 1 ≤ a) (h : a ≤ b) : fst_ a ≤ fst_ b := by
 rcases Int.lt_or_eq_of_le h with h | h
 ·have := fst_mono h0 h
  omega
 ·rw [h]
  exact Int.le_refl _
theorem fst_1 : fst_ 1 = -719162 := by decide
theorem fst_10000 : fst_ 10000 = 2932897 := by decide
theorem cum_1 (y : Int) : cum y 1 = 0 := by
 unfold cum cumT
 simp
theorem cum_mono (y : Int) {a b : Int} (h0 : 1 ≤ a) (h : a ≤ b) (h1 : b ≤ 13) : cum y a ≤ cum y b := by
 obtain ⟨k, hk⟩ := Int.eq_ofNat_of_zero_le (show 0 ≤ b - a by omega)
 have e : b = a + (k : Int) := by omega
 subst e
 clear hk h
 induction k with
 | zero => simp
 | succ k ih =>
  have := ih (by omega)
  have h2 := cum_succ y (a + (k : Int)) (by omega) (by omega)
  have := mlen_bd y (a + (k : Int))
  rw [show a + ((k + 1 : Nat) : Int) = a + (k : Int) + 1 by omega, h2]
  omega
theorem year_of (n : Int) (h1 : -719162 ≤ n) (h2 : n ≤ 2932896) : ∃ y, 1 ≤ y ∧ y ≤ 9999 ∧ fst_ y ≤ n ∧ n < fst_ (y + 1) := by
 have key : ∀ k : Nat, k ≤ 9999 → n < fst_ (1 + (k : Int)) → ∃ y, 1 ≤ y ∧ y ≤ 9999 ∧ fst_ y ≤ n ∧ n < fst_ (y + 1) := by
  intro k
  induction k with
  | zero =>
   intro _ h
   rw [show (1 : Int) + ((0 : Nat) : Int) = 1 from rfl, fst_1] at h
   omega
  | succ k ih =>
   intro hk h
   by_cases c : n < fst_ (1 + (k : Int))
   ·exact ih (by omega) c
   ·exact ⟨1 + (k : Int), by omega, by omega, by omega, by rw [show (1 : Int) + (k : Int) + 1 = 1 + ((k + 1 : Nat) : Int) by omega]; exact h⟩
 refine key 9999 (Nat.le_refl _) ?_
 rw [show (1 : Int) + ((9999 : Nat) : Int) = 10000 from rfl, fst_10000]
 omega
theorem month_of (y d : Int) (h1 : 0 ≤ d) (h2 : d < cum y 13) : ∃ m, 1 ≤ m ∧ m ≤ 12 ∧ cum y m ≤ d ∧ d < cum y (m + 1) := by
 have key : ∀ k : Nat, k ≤ 12 → d < cum y (1 + (k : Int)) → ∃ m, 1 ≤ m ∧ m ≤ 12 ∧ cum y m ≤ d ∧ d < cum y (m + 1) := by
  intro k
  induction k with
  | zero =>
   intro _ h
   rw [show (1 : Int) + ((0 : Nat) : Int) = 1 from rfl, cum_1] at h
   omega
  | succ k ih =>
   intro hk h
   by_cases c : d < cum y (1 + (k : Int))
   ·exact ih (by omega) c
   ·exact ⟨1 + (k : Int), by omega, by omega, by omega, by rw [show (1 : Int) + (k : Int) + 1 = 1 + ((k + 1 : Nat) : Int) by omega]; exact h⟩
 exact key 12 (Nat.le_refl _) h2
def isDate (n y m d : Int) : Prop := validB y m d = true ∧ fst_ y + d - 1 + cum y m = n
theorem valid_iff {y m d : Int} : validB y m d = true ↔ 1 ≤ y ∧ y ≤ 9999 ∧ 1 ≤ d ∧ d ≤ mlen y m := by
 unfold validB
 simp only [Bool.and_eq_true, decide_eq_true_eq, and_assoc]
theorem date_bd {n y m d : Int} (h : isDate n y m d) : fst_ y ≤ n ∧ n < fst_ (y + 1) ∧ 1 ≤ m ∧ m ≤ 12 ∧ -719162 ≤ n ∧ n ≤ 2932896 := by
 obtain ⟨h1, h2⟩ := h
 obtain ⟨h3, h4, h5, h6⟩ := valid_iff.1 h1
 have hm := (mlen_bd y m).2.2 (by omega)
 have hc := cum_succ y m hm.1 hm.2
 have hb := cum_bd y m
 have hs := fst_step y h3
 have hmo := cum_mono y (a := m + 1) (b := 13) (by omega) (by omega) (by omega)
 have h7 := fst_mono' (a := 1) (b := y) (by omega) h3
 have h8 := fst_mono' (a := y + 1) (b := 10000) (by omega) (by omega)
 rw [fst_1] at h7
 rw [fst_10000] at h8
 exact ⟨by omega, by omega, hm.1, hm.2, by omega, by omega⟩
theorem civ_l5 (y d0 M : Int) (hy : 1 ≤ y) (hy2 : y ≤ 9999) (h1 : 0 ≤ d0) (h2 : M ≤ 12) (h3 : cum y M ≤ d0) (h4 : d0 < cum y (M + 1)) : ∀ (k : Nat) (m : Int), M - m = k → 1 ≤ m →
  civil_Date.l5 y (d0 - cum y m) m = some (y, M, d0 - cum y M + 1, 0, ()) ∧ True := by
 intro k
 induction k with
 | zero =>
  intro m hk hm
  have e : m = M := by omega
  subst e
  have hc := cum_succ y m hm h2
  have hb := cum_bd y m
  have hb2 := cum_bd y (m + 1)
  rw [civil_Date.l5_eq, length_spec y m (by omega)]
  refine ⟨?_, trivial⟩
  simp (disch := omega) only [ss, cond_true, cond_false, Option.bind_some, ge_iff_le]
 | succ k ih =>
  intro m hk hm
  have hc := cum_succ y m hm (by omega)
  have hmo := cum_mono y (a := m + 1) (b := M) (by omega) (by omega) (by omega)
  have hb := cum_bd y m
  have hb1 := cum_bd y M
  have hb2 := cum_bd y (m + 1)
  have hb3 := cum_bd y (M + 1)
  rw [civil_Date.l5_eq, length_spec y m (by omega)]
  have e : d0 - cum y m - mlen y m = d0 - cum y (m + 1) := by omega
  refine ⟨?_, trivial⟩
  simp (disch := omega) only [ss, cond_true, cond_false, Option.bind_some, ge_iff_le]
  rw [e]
  exact (ih (m + 1) (by omega) (by omega)).1
theorem num11 (y : Int) (hy : 1 ≤ y) (hy2 : y ≤ 10000) : civil_number.f y 1 1 = some (fst_ y, ()) := by
 rw [number_civil y 1 1 hy hy2 (by omega) (by omega) (by omega) (by omega), cum_1]
 congr 2
 omega
theorem civ_l4 (n Y : Int) (hY : 1 ≤ Y) (h1 : fst_ Y ≤ n) (h2 : n < fst_ (Y + 1)) : ∀ (k : Nat) (z : Int), z - Y = k → z ≤ 9999 → civil_Date.l4 n z = civil_Date.l5 Y (n - fst_ Y) 1 := by
 intro k
 have hfb := fst_bd (Y + 1) (by omega)
 induction k with
 | zero =>
  intro z hk hz
  have e : z = Y := by omega
  subst e
  have hfb := fst_bd z (by omega) (by omega)
  have hfb1 := fst_bd (z + 1) (by omega) (by omega)
  rw [civil_Date.l4_eq, num11 z (by omega) (by omega)]
  simp (disch := omega) only [ss, cond_true, cond_false, Option.bind_some, gt_iff_lt]
 | succ k ih =>
  intro z hk hz
  have hm := fst_mono' (a := Y + 1) (b := z) (by omega) (by omega)
  have hfb := fst_bd z (by omega) (by omega)
  rw [civil_Date.l4_eq, num11 z (by omega) (by omega)]
  simp (disch := omega) only [ss, cond_true, cond_false, Option.bind_some, gt_iff_lt]
  exact ih (z - 1) (by omega) (by omega)
theorem civ_l1 (n Y : Int) (hY : 1 ≤ Y) (hY2 : Y ≤ 9999) (h1 : fst_ Y ≤ n) (h2 : n < fst_ (Y + 1)) : ∀ (k : Nat) (y : Int), (Y - y).toNat = k → 1 ≤ y → y ≤ 9999 → ∃ z, Y ≤ z ∧ z ≤ 9999 ∧ civil_Date.l1 n y = civil_Date.l4 n z := by
 intro k
 induction k with
 | zero =>
  intro y hk hy hy2
  refine ⟨y, by omega, hy2, ?_⟩
  rw [civil_Date.l1_eq]
  by_cases c : y < 9999
  ·have hm := fst_mono' (a := Y + 1) (b := y + 1) (by omega) (by omega)
   have hw : IntKind.i64.wrap (y + 1) = y + 1 := wr (by omega) (by omega)
   rw [hw, num11 (y + 1) (by omega) (by omega)]
   simp (disch := omega) only [ss, cond_true, cond_false, Option.bind_some, civil_Date.l2_eq, civil_Date.l3_eq]
  ·simp (disch := omega) only [ss, cond_true, cond_false, Option.bind_some, civil_Date.l2_eq, civil_Date.l3_eq]
 | succ k ih =>
  intro y hk hy hy2
  have hm := fst_mono' (a := y + 1) (b := Y) (by omega) (by omega)
  have hw : IntKind.i64.wrap (y + 1) = y + 1 := wr (by omega) (by omega)
  obtain ⟨z, z1, z2, z3⟩ := ih (y + 1) (by omega) (by omega) (by omega)
  refine ⟨z, z1, z2, ?_⟩
  rw [civil_Date.l1_eq, hw, num11 (y + 1) (by omega) (by omega)]
  simp (disch := omega) only [ss, cond_true, cond_false, Option.bind_some, civil_Date.l2_eq]
  exact z3
theorem date_spec (n : Int) (h1 : -719162 ≤ n) (h2 : n ≤ 2932896) : ∃ y m d, isDate n y m d ∧ civil_Date.f n = some (y, m, d, 0, ()) ∧ True := by
 obtain ⟨Y, y1, y2, y3, y4⟩ := year_of n h1 h2
 have hs := fst_step Y y1
 obtain ⟨M, m1, m2, m3, m4⟩ := month_of Y (n - fst_ Y) (by omega) (by omega)
 have hc := cum_succ Y M m1 m2
 have h5 := civ_l5 Y (n - fst_ Y) M y1 y2 (by omega) m2 m3 m4 (M - 1).toNat 1 (by omega) (by omega)
 rw [cum_1, Int.sub_zero] at h5
 refine ⟨Y, M, n - fst_ Y - cum Y M + 1, ⟨valid_iff.2 ⟨y1, y2, by omega, by omega⟩, by omega⟩, ?_, ?_⟩
 ·have hz1 : (n + 719162) * 400 / 146097 + 1 ≤ 9999 := by omega
  obtain ⟨z, z1, z2, z3⟩ := civ_l1 n Y y1 y2 y3 y4 _ ((n + 719162) * 400 / 146097 + 1) rfl (by omega) hz1
  have h4 := civ_l4 n Y y1 y3 y4 (z - Y).toNat z (by omega) z2
  rw [civil_Date.f_eq, civil_day.f_eq]
  have e1 : IntKind.i64.wrap (n - -719162) = n + 719162 := by rw [wr (by omega) (by omega)]; omega
  have e2 : IntKind.i64.wrap ((n + 719162) * 400) = (n + 719162) * 400 := wr (by omega) (by omega)
  simp (disch := omega) only [ss, cond_true, cond_false, Option.bind_some, e1, e2, tdn (show 0 ≤ (n + 719162) * 400 by omega), ge_iff_le]
  rw [z3, h4]
  exact h5.1
 ·trivial
theorem date_none (n : Int) (h : ¬ (-719162 ≤ n ∧ n ≤ 2932896)) : civil_Date.f n = some (0, 0, 0, 1, ()) ∧ True := by
 rw [civil_Date.f_eq, civil_day.f_eq]
 refine ⟨?_, trivial⟩
 by_cases c : -719162 ≤ n
 ·simp (disch := omega) only [ss, cond_true, cond_false, Option.bind_some, ge_iff_le]
 ·simp (disch := omega) only [ss, cond_true, cond_false, Option.bind_some, ge_iff_le]
theorem date_uniq {n y m d y' m' d' : Int} (h : isDate n y m d) (g : isDate n y' m' d') : y = y' ∧ m = m' ∧ d = d' := by
 obtain ⟨h1, h2, h3, h4, _⟩ := date_bd h
 obtain ⟨g1, g2, g3, g4, _⟩ := date_bd g
 obtain ⟨a1, a2, a3, a4⟩ := valid_iff.1 h.1
 obtain ⟨b1, b2, b3, b4⟩ := valid_iff.1 g.1
 have e : y = y' := by
  rcases Int.lt_trichotomy y y' with c | c | c
  ·have := fst_mono' (a := y + 1) (b := y') (by omega) (by omega)
   omega
  ·exact c
  ·have := fst_mono' (a := y' + 1) (b := y) (by omega) (by omega)
   omega
 subst e
 have hh := h.2
 have hg := g.2
 have c1 := cum_succ y m h3 h4
 have c2 := cum_succ y m' g3 g4
 have em : m = m' := by
  rcases Int.lt_trichotomy m m' with c | c | c
  ·have := cum_mono y (a := m + 1) (b := m') (by omega) (by omega) (by omega)
   omega
  ·exact c
  ·have := cum_mono y (a := m' + 1) (b := m) (by omega) (by omega) (by omega)
   omega
 subst em
 exact ⟨rfl, rfl, by omega⟩
theorem tdm (t k : Int) (hk : 0 < k) : Int.tdiv t k = (if t % k ≠ 0 ∧ t < 0 then t / k + 1 else t / k) ∧ Int.tmod t k = (if t % k ≠ 0 ∧ t < 0 then t % k - k else t % k) := by
 by_cases h : 0 ≤ t
 ·rw [if_neg (by omega), if_neg (by omega)]
  exact ⟨tdn h k, tmn h k⟩
 ·have e : t = -(-t) := by omega
  have h1 : Int.tdiv t k = -((-t) / k) := by rw [e, Int.neg_tdiv, tdn (by omega), Int.neg_neg]
  have h2 : Int.tmod t k = -((-t) % k) := by rw [e, Int.neg_tmod, tmn (by omega), Int.neg_neg]
  have h3 := Int.emod_add_mul_ediv t k
  have h4 := Int.emod_add_mul_ediv (-t) k
  have b1 := Int.emod_nonneg t (show k ≠ 0 by omega)
  have b2 := Int.emod_lt_of_pos t hk
  have b3 := Int.emod_nonneg (-t) (show k ≠ 0 by omega)
  have b4 := Int.emod_lt_of_pos (-t) hk
  rw [h1, h2]
  by_cases hz : t % k = 0
  ·rw [if_neg (by omega), if_neg (by omega)]
   have hz2 : (-t) % k = 0 := by
    have : k ∣ t := Int.dvd_of_emod_eq_zero hz
    exact Int.emod_eq_zero_of_dvd (Int.dvd_neg.2 this)
   have : (-t) / k = -(t / k) := Int.neg_ediv_of_dvd (Int.dvd_of_emod_eq_zero hz)
   exact ⟨by omega, by omega⟩
  ·rw [if_pos ⟨hz, by omega⟩, if_pos ⟨hz, by omega⟩]
   have hq : (-t) % k = k - t % k := by
    have e1 : -t = (k - t % k) + k * (-(t / k) - 1) := by
     rw [Int.mul_sub, Int.mul_neg]
     omega
    rw [e1, Int.add_mul_emod_self_left, Int.emod_eq_of_lt (by omega) (by omega)]
   have hd : (-t) / k = -(t / k) - 1 := by
    have : k * ((-t) / k) = k * (-(t / k) - 1) := by
     rw [Int.mul_sub, Int.mul_neg]
     omega
    exact Int.eq_of_mul_eq_mul_left (by omega) this
   exact ⟨by omega, by omega⟩
theorem mday_spec (t : Int) (h1 : -9000000000000000000 ≤ t) (h2 : t ≤ 9000000000000000000) : stamp_Day.f t = some (t / 86400, t % 86400, ()) ∧ vokref1_Day.f t = some (t / 86400, t % 86400, ()) := by
 obtain ⟨e1, e2⟩ := tdm t 86400 (by omega)
 rw [stamp_Day.f_eq, vokref1_Day.f_eq, vokref1_down.f_eq, e1, e2]
 by_cases c : t % 86400 ≠ 0 ∧ t < 0
 ·rw [if_pos c, if_pos c]
  have q1 : t / 86400 + 1 - 1 = t / 86400 := by omega
  have q2 : t % 86400 - 86400 + 86400 = t % 86400 := by omega
  simp (disch := omega) only [ss, cond_true, cond_false, Option.bind_some, q1, q2]
  exact ⟨trivial, trivial⟩
 ·rw [if_neg c, if_neg c]
  simp (disch := omega) only [ss, cond_true, cond_false, Option.bind_some]
  exact ⟨trivial, trivial⟩
theorem may_mo (t : Int) : stamp_May.f t = some (decide (-62135596800 ≤ t ∧ t ≤ 253402300799), ()) ∧ vokref1_May.f t = some (decide (-62135596800 ≤ t ∧ t ≤ 253402300799), ()) := by
 rw [stamp_May.f_eq, vokref1_May.f_eq]
 by_cases c : -62135596800 ≤ t
 ·by_cases c2 : t ≤ 253402300799
  ·simp (disch := omega) only [ss, cond_true, cond_false, Option.bind_some, ge_iff_le]
   exact ⟨trivial, trivial⟩
  ·simp (disch := omega) only [ss, cond_true, cond_false, Option.bind_some, ge_iff_le]
   exact ⟨trivial, trivial⟩
 ·simp (disch := omega) only [ss, cond_true, cond_false, Option.bind_some, ge_iff_le]
  exact ⟨trivial, trivial⟩
end Go.GV.YtdnpbkbklnkjoaaGreatDoor
namespace Go.GV.YtdnpbkbklnkjoaaGreatDoor
open Go.Proofs
def wk (n : Int) : Int := (n + 3) % 7
theorem wk_bd (n : Int) : 0 ≤ wk n ∧ wk n ≤ 6 := by unfold wk; omega
theorem weekday_spec (n : Int) : civil_Weekday.f n = some (wk n, ()) := by
 obtain ⟨_, e⟩ := tdm n 7 (by omega)
 rw [civil_Weekday.f_eq, e]
 unfold wk
 by_cases c : n % 7 ≠ 0 ∧ n < 0
 ·rw [if_pos c]
  simp (disch := omega) only [ss, cond_true, cond_false, Option.bind_some, tmn (show (0 : Int) ≤ n % 7 - 7 + 7 + 3 by omega)]
  congr 2
  omega
 ·rw [if_neg c]
  simp (disch := omega) only [ss, cond_true, cond_false, Option.bind_some, tmn (show (0 : Int) ≤ n % 7 + 7 + 3 by omega)]
  congr 2
  omega
theorem numJ (y : Int) (hy : 0 ≤ y) (hy2 : y ≤ 10001) : civil_number.f y 1 1 = some (fst_ y, ()) := by
 rw [civil_number.f_eq]
 simp (disch := omega) only [ss, cond_true, cond_false, Option.bind_some, tdn (show 0 ≤ y - 1 + 400 by omega), tdn (show (0 : Int) ≤ 153 * (1 + 12 - 3) + 2 by omega)]
 congr 2
 unfold fst_
 omega
def w1 (y w : Int) : Int := fst_ y + 3 - (fst_ y + 6 - w) % 7
theorem fst_bd0 (y : Int) (hy : 0 ≤ y) (hy2 : y ≤ 10001) : -1000000 ≤ fst_ y ∧ fst_ y ≤ 4000000 := by
 unfold fst_
 omega
theorem civ_first (y w : Int) (hy : 0 ≤ y) (hy2 : y ≤ 10001) (hw : 0 ≤ w) (hw2 : w ≤ 6) : civil_first.f y w = some (w1 y w, ()) := by
 have hb := fst_bd0 y hy hy2
 have hk := wk_bd (fst_ y)
 rw [civil_first.f_eq, numJ y hy hy2]
 simp only [Option.bind_some]
 rw [weekday_spec]
 simp (disch := omega) only [ss, cond_true, cond_false, Option.bind_some, tmn (show (0 : Int) ≤ wk (fst_ y) - w + 7 by omega)]
 unfold w1
 by_cases c : (wk (fst_ y) - w + 7) % 7 ≤ 3
 ·simp (disch := omega) only [ss, cond_true, cond_false, Option.bind_some]
  congr 2
  unfold wk at *
  omega
 ·simp (disch := omega) only [ss, cond_true, cond_false, Option.bind_some]
  congr 2
  unfold wk at *
  omega
theorem fst_step0 (y : Int) (hy : 0 ≤ y) : 365 ≤ fst_ (y + 1) - fst_ y ∧ fst_ (y + 1) - fst_ y ≤ 366 := by
 by_cases c : 1 ≤ y
 ·have := fst_step y c
  have := cum13 y
  omega
 ·have : y = 0 := by omega
  subst this
  decide
theorem w1_step (y w : Int) (hy : 0 ≤ y) : w1 (y + 1) w = w1 y w + 364 ∨ w1 (y + 1) w = w1 y w + 371 := by
 have := fst_step0 y hy
 unfold w1
 omega
theorem w1_near (y w : Int) : fst_ y - 3 ≤ w1 y w ∧ w1 y w ≤ fst_ y + 3 ∧ (w1 y w + 3 - w) % 7 = 0 := by
 unfold w1
 omega
def isWeek (n w y k : Int) : Prop := w1 y w ≤ n ∧ n < w1 (y + 1) w ∧ k = (n - w1 y w) / 7 + 1
theorem w1_mono {a b w : Int} (h0 : 0 ≤ a) (h : a ≤ b) : w1 a w ≤ w1 b w := by
 obtain ⟨k, hk⟩ := Int.eq_ofNat_of_zero_le (show 0 ≤ b - a by omega)
 have e : b = a + (k : Int) := by omega
 subst e
 clear hk h
 induction k with
 | zero => simp
 | succ k ih =>
  have := w1_step (a + (k : Int)) w (by omega)
  rw [show a + ((k + 1 : Nat) : Int) = a + (k : Int) + 1 by omega]
  omega
theorem week_uniq {n w y k y' k' : Int} (h0 : 0 ≤ y) (h1 : 0 ≤ y') (h : isWeek n w y k) (g : isWeek n w y' k') : y = y' ∧ k = k' := by
 obtain ⟨a1, a2, a3⟩ := h
 obtain ⟨b1, b2, b3⟩ := g
 have e : y = y' := by
  rcases Int.lt_trichotomy y y' with c | c | c
  ·have := w1_mono (a := y + 1) (b := y') (w := w) (by omega) (by omega)
   omega
  ·exact c
  ·have := w1_mono (a := y' + 1) (b := y) (w := w) (by omega) (by omega)
   omega
 subst e
 exact ⟨rfl, by omega⟩
theorem wday_spec (w : Int) : civil_wday.f w = some (decide (0 ≤ w ∧ w ≤ 6), ()) := by
 rw [civil_wday.f_eq]
 by_cases c : 0 ≤ w
 ·by_cases c2 : w ≤ 6
  ·simp (disch := omega) only [ss, cond_true, cond_false, Option.bind_some, ge_iff_le]
  ·simp (disch := omega) only [ss, cond_true, cond_false, Option.bind_some, ge_iff_le]
 ·simp (disch := omega) only [ss, cond_true, cond_false, Option.bind_some, ge_iff_le]
theorem week_l2 (n w Y : Int) (hY : 0 ≤ Y) (hY2 : Y ≤ 10001) (hw : 0 ≤ w) (hw2 : w ≤ 6) (h1 : w1 Y w ≤ n) (h2 : n ≤ 4000000) (e : Int) : civil_Week.l2 n w Y = some (Y, (n - w1 Y w) / 7 + 1, 0, ()) ∧ True := by
 have c := civ_first Y w hY hY2 hw hw2
 have f := fst_bd0 Y hY hY2
 have g := w1_near Y w
 rw [civil_Week.l2_eq, c]
 refine ⟨?_, trivial⟩
 simp (disch := omega) only [ss, cond_true, cond_false, Option.bind_some, tdn (show (0 : Int) ≤ n - w1 Y w by omega)]
theorem week_l1 (n w Y : Int) (hY : 1 ≤ Y) (hY2 : Y ≤ 9999) (hw : 0 ≤ w) (hw2 : w ≤ 6) (q1 : fst_ Y ≤ n) (q2 : n < fst_ (Y + 1)) : ∃ y k, isWeek n w y k ∧ 0 ≤ y ∧ y ≤ 10000 ∧ 1 ≤ k ∧ k ≤ 53 ∧ civil_Week.l1 n w Y false = some (y, k, 0, ()) ∧ True := by
 have f2 := fst_bd0 (Y + 1) (by omega) (by omega)
 have n0 := w1_near (Y - 1) w
 have n1 := w1_near Y w
 have n2 := w1_near (Y + 1) w
 have n3 := w1_near (Y + 2) w
 have s0 := w1_step (Y - 1) w (by omega)
 have s1 := w1_step Y w (by omega)
 have s2 := w1_step (Y + 1) w (by omega)
 have p0 := fst_step0 (Y - 1) (by omega)
 rw [show Y - 1 + 1 = Y by omega] at s0 p0
 rw [show Y + 1 + 1 = Y + 2 by omega] at s2
 have c1 := civ_first Y w (by omega) (by omega) hw hw2
 have c2 := civ_first (Y + 1) w (by omega) (by omega) hw hw2
 have wp : IntKind.i64.wrap (Y + 1) = Y + 1 := wr (by omega) (by omega)
 have wm : IntKind.i64.wrap (Y - 1) = Y - 1 := wr (by omega) (by omega)
 rw [civil_Week.l1_eq, cond_false, wp, wm, c1, c2]
 simp only [Option.bind_some]
 by_cases cl : n < w1 Y w
 ·have hn : ¬ n ≥ w1 (Y + 1) w := by omega
  have h := week_l2 n w (Y - 1) (by omega) (by omega) hw hw2 (by omega) (by omega) 0
  refine ⟨Y - 1, (n - w1 (Y - 1) w) / 7 + 1, ⟨by omega, by rw [show Y - 1 + 1 = Y by omega]; exact cl, rfl⟩, by omega, by omega, by omega, by omega, ?_, ?_⟩
  ·rw [dp cl, cond_true]
   exact h.1
  ·trivial
 ·by_cases cu : n ≥ w1 (Y + 1) w
  ·have h := week_l2 n w (Y + 1) (by omega) (by omega) hw hw2 (by omega) (by omega) 0
   refine ⟨Y + 1, (n - w1 (Y + 1) w) / 7 + 1, ⟨by omega, by rw [show Y + 1 + 1 = Y + 2 by omega]; omega, rfl⟩, by omega, by omega, by omega, by omega, ?_, ?_⟩
   ·rw [dn cl, dp cu, cond_true, cond_false]
    exact h.1
   ·trivial
  ·have h := week_l2 n w Y (by omega) (by omega) hw hw2 (by omega) (by omega) 0
   refine ⟨Y, (n - w1 Y w) / 7 + 1, ⟨by omega, by omega, rfl⟩, by omega, by omega, by omega, by omega, ?_, ?_⟩
   ·rw [dn cl, dn cu, cond_false, cond_false]
    exact h.1
   ·trivial
theorem week_spec (n w : Int) (h1 : -719162 ≤ n) (h2 : n ≤ 2932896) (hw : 0 ≤ w) (hw2 : w ≤ 6) : ∃ y k, isWeek n w y k ∧ 0 ≤ y ∧ y ≤ 10000 ∧ 1 ≤ k ∧ k ≤ 53 ∧ civil_Week.f n w = some (y, k, 0, ()) ∧ True := by
 obtain ⟨Y, m, d, hd, e1, e2⟩ := date_spec n h1 h2
 obtain ⟨q1, q2, _⟩ := date_bd hd
 obtain ⟨v1, v2, _⟩ := valid_iff.1 hd.1
 obtain ⟨y, k, g1, g2, g3, g4, g5, g6, g7⟩ := week_l1 n w Y v1 v2 hw hw2 q1 q2
 refine ⟨y, k, g1, g2, g3, g4, g5, ?_, ?_⟩
 ·rw [civil_Week.f_eq, e1]
  simp only [Option.bind_some]
  rw [wday_spec, dp (show 0 ≤ w ∧ w ≤ 6 from ⟨hw, hw2⟩)]
  exact g6
 ·trivial
theorem civyear_spec (y : Int) : civil_year.f y = some (decide (1 ≤ y ∧ y ≤ 9999), ()) := by
 rw [civil_year.f_eq]
 by_cases c : 1 ≤ y
 ·by_cases c2 : y ≤ 9999
  ·simp (disch := omega) only [ss, cond_true, cond_false, Option.bind_some, ge_iff_le]
  ·simp (disch := omega) only [ss, cond_true, cond_false, Option.bind_some, ge_iff_le]
 ·simp (disch := omega) only [ss, cond_true, cond_false, Option.bind_some, ge_iff_le]
def wks (y w : Int) : Int := (w1 (y + 1) w - w1 y w) / 7
theorem wks_bd (y w : Int) (hy : 0 ≤ y) : (wks y w = 52 ∨ wks y w = 53) ∧ w1 (y + 1) w = w1 y w + 7 * wks y w := by
 have := w1_step y w hy
 unfold wks
 omega
theorem weeks_spec (y w : Int) : civil_Weeks.f y w = some (if (1 ≤ y ∧ y ≤ 9999) ∧ 0 ≤ w ∧ w ≤ 6 then (wks y w, 0, ()) else (0, 1, ())) := by
 rw [civil_Weeks.f_eq, civyear_spec]
 by_cases c : 1 ≤ y ∧ y ≤ 9999
 ·rw [dp c]
  simp only [Option.bind_some]
  rw [wday_spec]
  by_cases c2 : 0 ≤ w ∧ w ≤ 6
  ·rw [dp c2, if_pos ⟨c, c2⟩]
   have h1 := civ_first (y + 1) w (by omega) (by omega) c2.1 c2.2
   have h2 := civ_first y w (by omega) (by omega) c2.1 c2.2
   have f1 := w1_near (y + 1) w
   have f2 := w1_near y w
   have f3 := fst_bd0 y (by omega) (by omega)
   have f4 := fst_bd0 (y + 1) (by omega) (by omega)
   have s := w1_step y w (by omega)
   have wp : IntKind.i64.wrap (y + 1) = y + 1 := wr (by omega) (by omega)
   rw [wp, h1, h2]
   unfold wks
   simp (disch := omega) only [ss, cond_true, cond_false, Option.bind_some, tdn (show (0 : Int) ≤ w1 (y + 1) w - w1 y w by omega)]
  ·rw [dn c2, if_neg fun q => c2 q.2]
   simp (disch := omega) only [ss, cond_true, cond_false, Option.bind_some]
 ·rw [dn c, if_neg fun q => c q.1]
  simp (disch := omega) only [ss, cond_true, cond_false, Option.bind_some]
theorem yearday_spec (n y m d : Int) (h : isDate n y m d) (e : civil_Date.f n = some (y, m, d, 0, ())) : civil_YearDay.f n = some (y, n - fst_ y + 1, 0, ()) := by
 obtain ⟨q1, q2, q3, q4, q5, q6⟩ := date_bd h
 obtain ⟨v1, v2, _⟩ := valid_iff.1 h.1
 have f := fst_bd0 y (by omega) (by omega)
 rw [civil_YearDay.f_eq, e]
 simp (disch := omega) only [ss, cond_true, cond_false, Option.bind_some, numJ y (by omega) (by omega)]
end Go.GV.YtdnpbkbklnkjoaaGreatDoor
namespace Go.GV.YtdnpbkbklnkjoaaGreatDoor
open Go.Proofs
abbrev Dy := Int × Int × Unit
def dyLt (a b : Dy) : Prop := a.1 < b.1 ∨ a.1 = b.1 ∧ a.2.1 < b.2.1
def Tells (f : Option (Bool × Unit)) (p : Prop) : Prop := ∃ b, f = some (b, ()) ∧ (b = true ↔ p)
theorem Tells.iff {f : Option (Bool × Unit)} {p q : Prop} (h : Tells f p) (e : p ↔ q) : Tells f q := by
 obtain ⟨b, h1, h2⟩ := h
 exact ⟨b, h1, h2.trans e⟩
theorem Tells.eq {f g : Option (Bool × Unit)} {p : Prop} (h : Tells f p) (k : Tells g p) : f = g := by
 obtain ⟨b, h1, h2⟩ := h
 obtain ⟨c, k1, k2⟩ := k
 have : b = c := by
  cases b <;> cases c <;> simp at h2 k2 <;> first | rfl | exact absurd k2 h2 | exact absurd h2 k2
 rw [h1, k1, this]
def okI (l : List Int) (lo hi : Int) (z : Bool) (j : Nat) : Prop := lo ≤ l.getD j 0 ∧ l.getD j 0 ≤ hi ∧ (l.getD j 0 = 0 → z = true)
def adjI (l : List Int) (j : Nat) : Prop := 0 < j → l.getD (j - 1) 0 < l.getD j 0
theorem within_l1 (l : List Int) (lo hi : Int) (z : Bool) (hl : l.length ≤ 1000000) : ∀ (k i : Nat), l.length - i = k → i ≤ l.length →
  Tells (rule_within.l1 l lo hi z l l.length i) ((∀ j, i ≤ j → j < l.length → okI l lo hi z j ∧ adjI l j) ∧ l.length ≤ 60) := by
 intro k
 induction k with
 | zero =>
  intro i hk hil
  rw [rule_within.l1_eq]
  simp (disch := omega) only [ss, cond_true, cond_false, Option.bind_some]
  refine ⟨_, rfl, ?_⟩
  rw [decide_eq_true_eq]
  exact ⟨fun h => ⟨fun j h1 h2 => by omega, by omega⟩, fun h => by omega⟩
 | succ k ih =>
  intro i hk hil
  have hlt : i < l.length := by omega
  have step : okI l lo hi z i ∧ adjI l i → Tells (rule_within.l2 l lo hi z l l.length i false) ((∀ j, i ≤ j → j < l.length → okI l lo hi z j ∧ adjI l j) ∧ l.length ≤ 60) := fun h => by
   rw [rule_within.l2_eq]
   simp (disch := omega) only [ss, cond_true, cond_false, Option.bind_some]
   refine (ih (i + 1) (by omega) (by omega)).iff ⟨fun q => ⟨fun j h1 h2 => ?_, q.2⟩, fun q => ⟨fun j h1 h2 => q.1 j (by omega) h2, q.2⟩⟩
   by_cases e : j = i
   ·subst e; exact h
   ·exact q.1 j (by omega) h2
  have stop : ¬ (okI l lo hi z i ∧ adjI l i) → Tells (rule_within.l2 l lo hi z l l.length i true) ((∀ j, i ≤ j → j < l.length → okI l lo hi z j ∧ adjI l j) ∧ l.length ≤ 60) := fun h => by
   rw [rule_within.l2_eq, cond_true]
   exact ⟨false, rfl, by simp; intro q; exact absurd (q i (Nat.le_refl _) hlt) h⟩
  have last : okI l lo hi z i → Tells (bif decide ((i : Int) > 0) then (bif decide (0 ≤ (i : Int) - 1) then (rule_within.l2 l lo hi z l l.length i (decide (l.getD i 0 ≤ l.getD (i - 1) 0))) else none) else (rule_within.l2 l lo hi z l l.length i false)) ((∀ j, i ≤ j → j < l.length → okI l lo hi z j ∧ adjI l j) ∧ l.length ≤ 60) := fun h => by
   by_cases h0 : i = 0
   ·simp (disch := omega) only [ss, cond_true, cond_false, Option.bind_some]
    exact step ⟨h, fun q => by omega⟩
   ·simp (disch := omega) only [ss, cond_true, cond_false, Option.bind_some]
    by_cases c : l.getD i 0 ≤ l.getD (i - 1) 0
    ·rw [dp c]
     exact stop fun q => by have := q.2 (by omega); omega
    ·rw [dn c]
     exact step ⟨h, fun _ => by omega⟩
  rw [rule_within.l1_eq]
  simp (disch := omega) only [ss, cond_true, cond_false, Option.bind_some]
  by_cases c1 : l.getD i 0 < lo
  ·rw [dp c1, cond_true]
   exact stop fun q => by have := q.1.1; omega
  ·by_cases c2 : l.getD i 0 > hi
   ·rw [dn c1, dp c2, cond_false, cond_true]
    exact stop fun q => by have := q.1.2.1; omega
   ·rw [dn c1, dn c2, cond_false, cond_false]
    by_cases c3 : l.getD i 0 = 0
    ·rw [dp c3, cond_true]
     cases z with
     | false =>
      exact stop fun q => by have := q.1.2.2 c3; cases this
     | true => exact last ⟨by omega, by omega, fun _ => rfl⟩
    ·rw [dn c3, cond_false]
     exact last ⟨by omega, by omega, fun q => absurd q c3⟩
def wi (l : List Int) (lo hi : Int) (z : Bool) : Prop := (∀ j, j < l.length → okI l lo hi z j ∧ adjI l j) ∧ l.length ≤ 60
theorem within_spec (l : List Int) (lo hi : Int) (z : Bool) (hl : l.length ≤ 1000000) : Tells (rule_within.f l lo hi z) (wi l lo hi z) := by
 have := within_l1 l lo hi z hl _ 0 rfl (Nat.zero_le _)
 rw [Int.natCast_zero] at this
 rw [rule_within.f_eq]
 exact this.iff ⟨fun h => ⟨fun j h2 => h.1 j (Nat.zero_le _) h2, h.2⟩, fun h => ⟨fun j _ h2 => h.1 j h2, h.2⟩⟩
theorem vrises_l1 (l : List Int) (hl : l.length ≤ 1000000) : ∀ (k i : Nat), l.length - i = k → 0 < i → Tells (vokref_Rises.l1 l i) (∀ j, i ≤ j → j < l.length → adjI l j) := by
 intro k
 induction k with
 | zero =>
  intro i hk hil
  rw [vokref_Rises.l1_eq]
  by_cases hlt : i < l.length
  ·omega
  ·simp (disch := omega) only [ss, cond_true, cond_false, Option.bind_some]
   exact ⟨true, rfl, by simp; intro j h1 h2; omega⟩
 | succ k ih =>
  intro i hk hil
  have hlt : i < l.length := by omega
  have w1 : IntKind.i64.wrap ((i : Int) - 1) = ((i - 1 : Nat) : Int) := wr_sub1 (by omega) (by omega)
  rw [vokref_Rises.l1_eq]
  simp (disch := omega) only [ss, cond_true, cond_false, Option.bind_some, w1]
  by_cases c : l.getD i 0 ≤ l.getD (i - 1) 0
  ·rw [dp c, cond_true]
   exact ⟨false, rfl, by simp; exact ⟨i, Nat.le_refl _, hlt, fun q => by have := q hil; omega⟩⟩
  ·rw [dn c, cond_false]
   refine (ih (i + 1) (by omega) (by omega)).iff ⟨fun q j h1 h2 => ?_, fun q j h1 h2 => q j (by omega) h2⟩
   by_cases e : j = i
   ·subst e; intro _; omega
   ·exact q j (by omega) h2
theorem vrises_spec (l : List Int) (hl : l.length ≤ 1000000) : Tells (vokref_Rises.f l) (∀ j, j < l.length → adjI l j) := by
 have := vrises_l1 l hl _ 1 rfl (by omega)
 rw [vokref_Rises.f_eq]
 exact this.iff ⟨fun h j h2 h0 => h j (by omega) h2 h0, fun h j _ h2 => h j h2⟩
theorem vwithin_l1 (l : List Int) (lo hi : Int) (z : Bool) (hl : l.length ≤ 1000000) : ∀ (k i : Nat), l.length - i = k → i ≤ l.length →
  Tells (vokref4_within.l1 l lo hi z i) ((∀ j, i ≤ j → j < l.length → okI l lo hi z j) ∧ (∀ j, j < l.length → adjI l j) ∧ l.length ≤ 60) := by
 intro k
 induction k with
 | zero =>
  intro i hk hil
  rw [vokref4_within.l1_eq]
  simp (disch := omega) only [ss, cond_true, cond_false, Option.bind_some]
  by_cases c : (l.length : Int) ≤ 60
  ·obtain ⟨b, h1, h2⟩ := vrises_spec l hl
   simp (disch := omega) only [ss, cond_true, cond_false, Option.bind_some, h1]
   exact ⟨b, rfl, h2.trans ⟨fun q => ⟨fun j h3 h4 => by omega, q, by omega⟩, fun q => q.2.1⟩⟩
  ·simp (disch := omega) only [ss, cond_true, cond_false, Option.bind_some]
   exact ⟨false, rfl, by simp; intro _ _; omega⟩
 | succ k ih =>
  intro i hk hil
  have hlt : i < l.length := by omega
  have step : okI l lo hi z i → Tells (vokref4_within.l2 l lo hi z i false) ((∀ j, i ≤ j → j < l.length → okI l lo hi z j) ∧ (∀ j, j < l.length → adjI l j) ∧ l.length ≤ 60) := fun h => by
   rw [vokref4_within.l2_eq]
   simp (disch := omega) only [ss, cond_true, cond_false, Option.bind_some]
   refine (ih (i + 1) (by omega) (by omega)).iff ⟨fun q => ⟨fun j h1 h2 => ?_, q.2⟩, fun q => ⟨fun j h1 h2 => q.1 j (by omega) h2, q.2⟩⟩
   by_cases e : j = i
   ·subst e; exact h
   ·exact q.1 j (by omega) h2
  have stop : ¬ okI l lo hi z i → Tells (vokref4_within.l2 l lo hi z i true) ((∀ j, i ≤ j → j < l.length → okI l lo hi z j) ∧ (∀ j, j < l.length → adjI l j) ∧ l.length ≤ 60) := fun h => by
   rw [vokref4_within.l2_eq, cond_true]
   exact ⟨false, rfl, by simp; intro q; exact absurd (q i (Nat.le_refl _) hlt) h⟩
  rw [vokref4_within.l1_eq]
  simp (disch := omega) only [ss, cond_true, cond_false, Option.bind_some]
  by_cases c1 : l.getD i 0 < lo
  ·rw [dp c1, cond_true]
   exact stop fun q => by have := q.1; omega
  ·by_cases c2 : l.getD i 0 > hi
   ·rw [dn c1, dp c2, cond_false, cond_true]
    exact stop fun q => by have := q.2.1; omega
   ·rw [dn c1, dn c2, cond_false, cond_false]
    by_cases c3 : l.getD i 0 = 0
    ·rw [dp c3, cond_true]
     cases z with
     | false => exact stop fun q => by have := q.2.2 c3; cases this
     | true => exact step ⟨by omega, by omega, fun _ => rfl⟩
    ·rw [dn c3, cond_false]
     exact step ⟨by omega, by omega, fun q => absurd q c3⟩
theorem vwithin_spec (l : List Int) (lo hi : Int) (z : Bool) (hl : l.length ≤ 1000000) : Tells (vokref4_within.f l lo hi z) (wi l lo hi z) := by
 have := vwithin_l1 l lo hi z hl _ 0 rfl (Nat.zero_le _)
 rw [Int.natCast_zero] at this
 rw [vokref4_within.f_eq]
 exact this.iff ⟨fun h => ⟨fun j h2 => ⟨h.1 j (Nat.zero_le _) h2, h.2.1 j h2⟩, h.2.2⟩, fun h => ⟨fun j _ h2 => (h.1 j h2).1, fun j h2 => (h.1 j h2).2, h.2⟩⟩
def gD (l : List Dy) (j : Nat) : Dy := l.getD j ((0, 0, ()) : Int × Int × Unit)
def okD (l : List Dy) (j : Nat) : Prop := -53 ≤ (gD l j).1 ∧ (gD l j).1 ≤ 53 ∧ 0 ≤ (gD l j).2.1 ∧ (gD l j).2.1 ≤ 6 ∧ (0 < j → dyLt (gD l (j - 1)) (gD l j))
def dwi (l : List Dy) : Prop := (∀ j, j < l.length → okD l j) ∧ l.length ≤ 60
theorem vdl_l1 (l : List Dy) (hl : l.length ≤ 1000000) : ∀ (k i : Nat), l.length - i = k → i ≤ l.length → Tells (vokref4_dayList.l1 l i) ((∀ j, i ≤ j → j < l.length → okD l j) ∧ l.length ≤ 60) := by
 intro k
 induction k with
 | zero =>
  intro i hk hil
  rw [vokref4_dayList.l1_eq]
  simp (disch := omega) only [ss, cond_true, cond_false, Option.bind_some]
  refine ⟨_, rfl, ?_⟩
  rw [decide_eq_true_eq]
  exact ⟨fun h => ⟨fun j h1 h2 => by omega, by omega⟩, fun h => by omega⟩
 | succ k ih =>
  intro i hk hil
  have hlt : i < l.length := by omega
  have step : okD l i → Tells (vokref4_dayList.l2 l i false) ((∀ j, i ≤ j → j < l.length → okD l j) ∧ l.length ≤ 60) := fun h => by
   rw [vokref4_dayList.l2_eq]
   simp (disch := omega) only [ss, cond_true, cond_false, Option.bind_some]
   refine (ih (i + 1) (by omega) (by omega)).iff ⟨fun q => ⟨fun j h1 h2 => ?_, q.2⟩, fun q => ⟨fun j h1 h2 => q.1 j (by omega) h2, q.2⟩⟩
   by_cases e : j = i
   ·subst e; exact h
   ·exact q.1 j (by omega) h2
  have stop : ¬ okD l i → Tells (vokref4_dayList.l2 l i true) ((∀ j, i ≤ j → j < l.length → okD l j) ∧ l.length ≤ 60) := fun h => by
   rw [vokref4_dayList.l2_eq, cond_true]
   exact ⟨false, rfl, by simp; intro q; exact absurd (q i (Nat.le_refl _) hlt) h⟩
  have hg : l.getD i ((0, 0, ()) : Int × Int × Unit) = gD l i := rfl
  have hg1 : l.getD (i - 1) ((0, 0, ()) : Int × Int × Unit) = gD l (i - 1) := rfl
  rw [vokref4_dayList.l1_eq]
  simp (disch := omega) only [ss, cond_true, cond_false, Option.bind_some, hg]
  by_cases c1 : (gD l i).1 < -53
  ·rw [dp c1, cond_true]
   exact stop fun q => by have := q.1; omega
  ·by_cases c2 : (gD l i).1 > 53
   ·rw [dn c1, dp c2, cond_false, cond_true]
    exact stop fun q => by have := q.2.1; omega
   ·by_cases c3 : (gD l i).2.1 < 0
    ·rw [dn c1, dn c2, dp c3, cond_false, cond_false, cond_true]
     exact stop fun q => by have := q.2.2.1; omega
    ·by_cases c4 : (gD l i).2.1 > 6
     ·rw [dn c1, dn c2, dn c3, dp c4, cond_false, cond_false, cond_false, cond_true]
      exact stop fun q => by have := q.2.2.2.1; omega
     ·rw [dn c1, dn c2, dn c3, dn c4, cond_false, cond_false, cond_false, cond_false]
      by_cases h0 : i = 0
      ·simp (disch := omega) only [ss, cond_true, cond_false, Option.bind_some]
       exact step ⟨by omega, by omega, by omega, by omega, fun q => by omega⟩
      ·have w1 : IntKind.i64.wrap ((i : Int) - 1) = ((i - 1 : Nat) : Int) := wr_sub1 (by omega) (by omega)
       simp (disch := omega) only [ss, cond_true, cond_false, Option.bind_some, w1, hg1]
       by_cases c5 : (gD l i).1 < (gD l (i - 1)).1
       ·rw [dp c5, cond_true]
        exact stop fun q => by have := q.2.2.2.2 (by omega); unfold dyLt at this; omega
       ·by_cases c6 : (gD l i).1 = (gD l (i - 1)).1
        ·rw [dn c5, dp c6, cond_false, cond_true]
         by_cases c7 : (gD l i).2.1 ≤ (gD l (i - 1)).2.1
         ·rw [dp c7]
          exact stop fun q => by have := q.2.2.2.2 (by omega); unfold dyLt at this; omega
         ·rw [dn c7]
          exact step ⟨by omega, by omega, by omega, by omega, fun _ => by unfold dyLt; omega⟩
        ·rw [dn c5, dn c6, cond_false, cond_false]
         exact step ⟨by omega, by omega, by omega, by omega, fun _ => by unfold dyLt; omega⟩
theorem vdl_spec (l : List Dy) (hl : l.length ≤ 1000000) : Tells (vokref4_dayList.f l) (dwi l) := by
 have := vdl_l1 l hl _ 0 rfl (Nat.zero_le _)
 rw [Int.natCast_zero] at this
 rw [vokref4_dayList.f_eq]
 exact this.iff ⟨fun h => ⟨fun j h2 => h.1 j (Nat.zero_le _) h2, h.2⟩, fun h => ⟨fun j _ h2 => h.1 j h2, h.2⟩⟩
theorem vnumb_spec (l : List Dy) (hl : l.length ≤ 1000000) : Tells (vokref4_numbered.f l) (∃ j, j < l.length ∧ (gD l j).1 ≠ 0) := by
 have key : ∀ (k i : Nat), l.length - i = k → i ≤ l.length → Tells (vokref4_numbered.l1 l i) (∃ j, i ≤ j ∧ j < l.length ∧ (gD l j).1 ≠ 0) := by
  intro k
  induction k with
  | zero =>
   intro i hk hil
   rw [vokref4_numbered.l1_eq]
   simp (disch := omega) only [ss, cond_true, cond_false, Option.bind_some]
   exact ⟨false, rfl, by simp; intro j h1 h2; omega⟩
  | succ k ih =>
   intro i hk hil
   have hlt : i < l.length := by omega
   have hg : l.getD i ((0, 0, ()) : Int × Int × Unit) = gD l i := rfl
   rw [vokref4_numbered.l1_eq]
   simp (disch := omega) only [ss, cond_true, cond_false, Option.bind_some, hg]
   by_cases c : (gD l i).1 = 0
   ·rw [dp c]
    simp (disch := omega) only [ss, cond_true, cond_false, Option.bind_some]
    refine (ih (i + 1) (by omega) (by omega)).iff ⟨fun ⟨j, h1, h2, h3⟩ => ⟨j, by omega, h2, h3⟩, fun ⟨j, h1, h2, h3⟩ => ⟨j, ?_, h2, h3⟩⟩
    by_cases e : j = i
    ·subst e; exact absurd c h3
    ·omega
   ·rw [dn c]
    simp (disch := omega) only [ss, cond_true, cond_false, Option.bind_some]
    exact ⟨true, rfl, by simp; exact ⟨i, Nat.le_refl _, hlt, c⟩⟩
 have := key _ 0 rfl (Nat.zero_le _)
 rw [Int.natCast_zero] at this
 rw [vokref4_numbered.f_eq]
 exact this.iff ⟨fun ⟨j, _, h⟩ => ⟨j, h⟩, fun ⟨j, h⟩ => ⟨j, Nat.zero_le _, h⟩⟩
end Go.GV.YtdnpbkbklnkjoaaGreatDoor
namespace Go.GV.YtdnpbkbklnkjoaaGreatDoor
open Go.Proofs
abbrev Rl := Int × Int × Int × Int × Int × Bool × List Int × List Int × List Int × List Int × List Dy × List Int × List Int × List Int × List Int × Unit
def Gate (f : Option (Bool × Unit)) (p : Prop) (K : Option (Bool × Unit)) : Prop := (p → f = K) ∧ (¬ p → f = some (false, ()))
theorem Gate.iff {f K : Option (Bool × Unit)} {p q : Prop} (h : Gate f p K) (e : p ↔ q) : Gate f q K := ⟨fun x => h.1 (e.2 x), fun x => h.2 fun y => x (e.1 y)⟩
theorem Gate.eq {f g K : Option (Bool × Unit)} {p : Prop} (h : Gate f p K) (k : Gate g p K) : f = g := by
 by_cases hp : p
 ·rw [h.1 hp, k.1 hp]
 ·rw [h.2 hp, k.2 hp]
theorem gate_and {f g K : Option (Bool × Unit)} {p q : Prop} (h : Tells f p) (k : Gate g q K) : Gate (f.bind fun t => bif !t.1 then some (false, ()) else g) (p ∧ q) K := by
 obtain ⟨b, h1, h2⟩ := h
 rw [h1]
 simp only [Option.bind_some]
 cases b with
 | true => exact ⟨fun x => k.1 x.2, fun x => k.2 fun y => x ⟨h2.1 rfl, y⟩⟩
 | false => exact ⟨fun x => absurd (h2.2 x.1) (by simp), fun _ => rfl⟩
theorem tells_and {f g : Option (Bool × Unit)} {p q : Prop} (h : Tells f p) (k : Tells g q) : Tells (f.bind fun t => bif t.1 then g else some (false, ())) (p ∧ q) := by
 obtain ⟨b, h1, h2⟩ := h
 obtain ⟨c, k1, k2⟩ := k
 rw [h1]
 simp only [Option.bind_some]
 cases b with
 | true => rw [cond_true]; exact ⟨c, k1, ⟨fun x => ⟨h2.1 rfl, k2.1 x⟩, fun x => k2.2 x.2⟩⟩
 | false => exact ⟨false, rfl, ⟨fun x => by simp at x, fun x => absurd (h2.2 x.1) (by simp)⟩⟩
theorem tells_last {f : Option (Bool × Unit)} {p : Prop} (h : Tells f p) : Tells (f.bind fun t => some (t.1, ())) p := by
 obtain ⟨b, h1, h2⟩ := h
 exact ⟨b, by rw [h1]; rfl, h2⟩
def numd (f : Int) (we : List Int) (l : List Dy) (j : Nat) : Prop := (gD l j).1 ≠ 0 → f = 2 ∨ f = 1 ∧ we.length = 0
section
variable (f iv ct un wk : Int) (en : Bool) (mo we yd md : List Int) (dy : List Dy) (ho mi se po : List Int)
theorem mdays_l1 (hl : dy.length ≤ 1000000) (hw : we.length ≤ 1000000) : ∀ (k i : Nat), dy.length - i = k → i ≤ dy.length → (∀ j, j < i → okD dy j) →
  Tells (rule_mayDays.l1 dy dy.length i (f, iv, ct, un, wk, en, mo, we, yd, md, dy, ho, mi, se, po, ())) ((∀ j, i ≤ j → j < dy.length → okD dy j ∧ numd f we dy j) ∧ dy.length ≤ 60) := by
 intro k
 induction k with
 | zero =>
  intro i hk hil hpre
  rw [rule_mayDays.l1_eq]
  simp (disch := omega) only [ss, cond_true, cond_false, Option.bind_some]
  refine ⟨_, rfl, ?_⟩
  rw [decide_eq_true_eq]
  exact ⟨fun h => ⟨fun j h1 h2 => by omega, by omega⟩, fun h => by omega⟩
 | succ k ih =>
  intro i hk hil hpre
  have hlt : i < dy.length := by omega
  have hg : dy.getD i ((0, 0, ()) : Int × Int × Unit) = gD dy i := rfl
  have hg1 : dy.getD (i - 1) ((0, 0, ()) : Int × Int × Unit) = gD dy (i - 1) := rfl
  have stop : ¬ (okD dy i ∧ numd f we dy i) → Tells (some (false, ())) ((∀ j, i ≤ j → j < dy.length → okD dy j ∧ numd f we dy j) ∧ dy.length ≤ 60) := fun h =>
   ⟨false, rfl, by simp; intro q; exact absurd (q i (Nat.le_refl _) hlt) h⟩
  have go : okD dy i → numd f we dy i → Tells (rule_mayDays.l3 dy dy.length i false (f, iv, ct, un, wk, en, mo, we, yd, md, dy, ho, mi, se, po, ())) ((∀ j, i ≤ j → j < dy.length → okD dy j ∧ numd f we dy j) ∧ dy.length ≤ 60) := fun h h' => by
   rw [rule_mayDays.l3_eq]
   simp (disch := omega) only [ss, cond_true, cond_false, Option.bind_some]
   refine (ih (i + 1) (by omega) (by omega) fun j hj => ?_).iff ⟨fun q => ⟨fun j h1 h2 => ?_, q.2⟩, fun q => ⟨fun j h1 h2 => q.1 j (by omega) h2, q.2⟩⟩
   ·by_cases e : j = i
    ·subst e; exact h
    ·exact hpre j (by omega)
   ·by_cases e : j = i
    ·subst e; exact ⟨h, h'⟩
    ·exact q.1 j (by omega) h2
  have l3t : rule_mayDays.l3 dy dy.length i true (f, iv, ct, un, wk, en, mo, we, yd, md, dy, ho, mi, se, po, ()) = some (false, ()) := by rw [rule_mayDays.l3_eq, cond_true]
  have bad : ∀ a b, ¬ okD dy i → Tells (rule_mayDays.l2 dy dy.length i true (f, iv, ct, un, wk, en, mo, we, yd, md, dy, ho, mi, se, po, ()) (a, b, ())) ((∀ j, i ≤ j → j < dy.length → okD dy j ∧ numd f we dy j) ∧ dy.length ≤ 60) := fun a b h => by
   rw [rule_mayDays.l2_eq, cond_true]
   exact stop fun q => h q.1
  have good : okD dy i → Tells (rule_mayDays.l2 dy dy.length i false (f, iv, ct, un, wk, en, mo, we, yd, md, dy, ho, mi, se, po, ()) (gD dy i)) ((∀ j, i ≤ j → j < dy.length → okD dy j ∧ numd f we dy j) ∧ dy.length ≤ 60) := fun h => by
   rw [rule_mayDays.l2_eq, cond_false]
   by_cases c1 : (gD dy i).1 = 0
   ·simp (disch := omega) only [ss, cond_true, cond_false, Option.bind_some]
    exact go h fun q => absurd c1 q
   ·by_cases c2 : f = 2
    ·simp (disch := omega) only [ss, cond_true, cond_false, Option.bind_some]
     exact go h fun _ => .inl c2
    ·by_cases c3 : f = 1
     ·by_cases c4 : (we.length : Int) > 0
      ·simp (disch := omega) only [ss, cond_true, cond_false, Option.bind_some, l3t]
       exact stop fun q => by rcases q.2 c1 with q | q <;> omega
      ·simp (disch := omega) only [ss, cond_true, cond_false, Option.bind_some]
       exact go h fun _ => .inr ⟨c3, by omega⟩
     ·simp (disch := omega) only [ss, cond_true, cond_false, Option.bind_some, l3t]
      exact stop fun q => by rcases q.2 c1 with q | q <;> omega
  rw [rule_mayDays.l1_eq]
  simp (disch := omega) only [ss, cond_true, cond_false, Option.bind_some, hg]
  by_cases c1 : (gD dy i).1 < -53
  ·rw [dp c1, cond_true]
   exact bad _ _ fun q => by have := q.1; omega
  ·by_cases c2 : (gD dy i).1 > 53
   ·rw [dn c1, dp c2, cond_false, cond_true]
    exact bad _ _ fun q => by have := q.2.1; omega
   ·by_cases c3 : (gD dy i).2.1 < 0
    ·rw [dn c1, dn c2, dp c3, cond_false, cond_false, cond_true]
     exact bad _ _ fun q => by have := q.2.2.1; omega
    ·by_cases c4 : (gD dy i).2.1 > 6
     ·rw [dn c1, dn c2, dn c3, dp c4, cond_false, cond_false, cond_false, cond_true]
      exact bad _ _ fun q => by have := q.2.2.2.1; omega
     ·rw [dn c1, dn c2, dn c3, dn c4, cond_false, cond_false, cond_false, cond_false]
      by_cases h0 : i = 0
      ·simp (disch := omega) only [ss, cond_true, cond_false, Option.bind_some]
       exact good ⟨by omega, by omega, by omega, by omega, fun q => by omega⟩
      ·have hp := hpre (i - 1) (by omega)
       have b1 := hp.1
       have b2 := hp.2.1
       have b3 := hp.2.2.1
       have b4 := hp.2.2.2.1
       simp (disch := omega) only [ss, cond_true, cond_false, Option.bind_some, hg1, rule_order.f_eq]
       by_cases c6 : (gD dy (i - 1)).1 = (gD dy i).1
       ·simp (disch := omega) only [ss, cond_true, cond_false, Option.bind_some]
        by_cases c7 : (gD dy (i - 1)).2.1 - (gD dy i).2.1 ≥ 0
        ·rw [dp c7]
         exact bad _ _ fun q => by have := q.2.2.2.2 (by omega); unfold dyLt at this; omega
        ·rw [dn c7]
         exact good ⟨by omega, by omega, by omega, by omega, fun _ => by unfold dyLt; omega⟩
       ·simp (disch := omega) only [ss, cond_true, cond_false, Option.bind_some]
        by_cases c7 : (gD dy (i - 1)).1 - (gD dy i).1 ≥ 0
        ·rw [dp c7]
         exact bad _ _ fun q => by have := q.2.2.2.2 (by omega); unfold dyLt at this; omega
        ·rw [dn c7]
         exact good ⟨by omega, by omega, by omega, by omega, fun _ => by unfold dyLt; omega⟩
def listsP : Prop := wi mo 1 12 false ∧ wi we (-53) 53 false ∧ wi yd (-366) 366 false ∧ wi md (-31) 31 false ∧ wi ho 0 23 true ∧ wi mi 0 59 true ∧ wi se 0 59 true ∧ wi po (-366) 366 false ∧ (dwi dy ∧ ∀ j, j < dy.length → numd f we dy j)
def short : Prop := mo.length ≤ 100000 ∧ we.length ≤ 100000 ∧ yd.length ≤ 100000 ∧ md.length ≤ 100000 ∧ dy.length ≤ 100000 ∧ ho.length ≤ 100000 ∧ mi.length ≤ 100000 ∧ se.length ≤ 100000 ∧ po.length ≤ 100000
theorem lists_spec (h : short mo we yd md dy ho mi se po) : Tells (rule_mayLists.f (f, iv, ct, un, wk, en, mo, we, yd, md, dy, ho, mi, se, po, ())) (listsP f mo we yd md dy ho mi se po) := by
 obtain ⟨h1, h2, h3, h4, h5, h6, h7, h8, h9⟩ := h
 have hD := mdays_l1 f iv ct un wk en mo we yd md dy ho mi se po (by omega) (by omega) _ 0 rfl (Nat.zero_le _) fun j hj => by omega
 rw [Int.natCast_zero] at hD
 have hD2 : Tells (rule_mayDays.f (f, iv, ct, un, wk, en, mo, we, yd, md, dy, ho, mi, se, po, ())) (dwi dy ∧ ∀ j, j < dy.length → numd f we dy j) := by
  rw [rule_mayDays.f_eq]
  exact hD.iff ⟨fun q => ⟨⟨fun j hj => (q.1 j (Nat.zero_le _) hj).1, q.2⟩, fun j hj => (q.1 j (Nat.zero_le _) hj).2⟩, fun q => ⟨fun j _ hj => ⟨q.1.1 j hj, q.2 j hj⟩, q.1.2⟩⟩
 rw [rule_mayLists.f_eq]
 exact tells_and (within_spec mo 1 12 false (by omega)) (tells_and (within_spec we (-53) 53 false (by omega)) (tells_and (within_spec yd (-366) 366 false (by omega)) (tells_and (within_spec md (-31) 31 false (by omega)) (tells_and (within_spec ho 0 23 true (by omega)) (tells_and (within_spec mi 0 59 true (by omega)) (tells_and (within_spec se 0 59 true (by omega)) (tells_and (within_spec po (-366) 366 false (by omega)) (tells_last hD2))))))))
def numP : Prop := (1 ≤ f ∧ f ≤ 7 ∧ 1 ≤ iv ∧ iv ≤ 1000 ∧ 0 ≤ ct ∧ ct ≤ 4096 ∧ 0 ≤ wk ∧ wk ≤ 6) ∧ (en = true → (-62135596800 ≤ un ∧ un ≤ 253402300799) ∧ ct = 0) ∧ (en = false → un = 0)
theorem nums_spec : Tells (rule_mayNumbers.f (f, iv, ct, un, wk, en, mo, we, yd, md, dy, ho, mi, se, po, ())) (numP f iv ct un wk en) := by
 have l1t : rule_mayNumbers.l1 true (f, iv, ct, un, wk, en, mo, we, yd, md, dy, ho, mi, se, po, ()) = some (false, ()) := by rw [rule_mayNumbers.l1_eq, cond_true]
 have no : ¬ (1 ≤ f ∧ f ≤ 7 ∧ 1 ≤ iv ∧ iv ≤ 1000 ∧ 0 ≤ ct ∧ ct ≤ 4096 ∧ 0 ≤ wk ∧ wk ≤ 6) → Tells (some (false, ())) (numP f iv ct un wk en) := fun h => ⟨false, rfl, ⟨fun q => by simp at q, fun q => absurd q.1 h⟩⟩
 rw [rule_mayNumbers.f_eq]
 dsimp only
 by_cases c : 1 ≤ f ∧ f ≤ 7 ∧ 1 ≤ iv ∧ iv ≤ 1000 ∧ 0 ≤ ct ∧ ct ≤ 4096 ∧ 0 ≤ wk ∧ wk ≤ 6
 ·obtain ⟨c1, c2, c3, c4, c5, c6, c7, c8⟩ := c
  simp (disch := omega) only [ss, cond_true, cond_false, Option.bind_some, rule_mayNumbers.l1_eq, stamp_May.f_eq]
  cases en with
  | true =>
   simp (disch := omega) only [ss, cond_true, cond_false, Option.bind_some]
   by_cases d1 : un ≥ -62135596800
   ·by_cases d2 : un ≤ 253402300799
    ·simp (disch := omega) only [ss, cond_true, cond_false, Option.bind_some]
     refine ⟨_, rfl, ?_⟩
     rw [decide_eq_true_eq]
     exact ⟨fun q => ⟨⟨c1, c2, c3, c4, c5, c6, c7, c8⟩, fun _ => ⟨⟨by omega, d2⟩, q⟩, fun q => by cases q⟩, fun q => (q.2.1 rfl).2⟩
    ·simp (disch := omega) only [ss, cond_true, cond_false, Option.bind_some]
     exact ⟨false, rfl, ⟨fun q => by simp at q, fun q => by have := (q.2.1 rfl).1; omega⟩⟩
   ·simp (disch := omega) only [ss, cond_true, cond_false, Option.bind_some]
    exact ⟨false, rfl, ⟨fun q => by simp at q, fun q => by have := (q.2.1 rfl).1; omega⟩⟩
  | false =>
   simp (disch := omega) only [ss, cond_true, cond_false, Option.bind_some]
   refine ⟨_, rfl, ?_⟩
   rw [decide_eq_true_eq]
   exact ⟨fun q => ⟨⟨c1, c2, c3, c4, c5, c6, c7, c8⟩, (fun q => by cases q), fun _ => q⟩, fun q => q.2.2 rfl⟩
 ·have hb : ∀ {p : Prop} [Decidable p] {x : Option (Bool × Unit)}, (¬ p → Tells x (numP f iv ct un wk en)) → (p → Tells (some (false, ())) (numP f iv ct un wk en)) → Tells (bif decide p then (some (false, ())) else x) (numP f iv ct un wk en) := fun {p} _ {x} h1 h2 => by
   by_cases hp : p
   ·rw [dp hp, cond_true]; exact h2 hp
   ·rw [dn hp, cond_false]; exact h1 hp
  have hn := no c
  rw [l1t]
  refine hb (fun d1 => hb (fun d2 => hb (fun d3 => hb (fun d4 => hb (fun d5 => hb (fun d6 => hb (fun d7 => ?_) fun _ => hn) fun _ => hn) fun _ => hn) fun _ => hn) fun _ => hn) fun _ => hn) fun _ => hn
  have : wk > 6 := by omega
  rw [dp this, l1t]
  exact hn
def mayP : Prop := numP f iv ct un wk en ∧ listsP f mo we yd md dy ho mi se po ∧ (0 < we.length → f = 1) ∧ (0 < yd.length → ¬ (2 ≤ f ∧ f ≤ 4)) ∧ (0 < md.length → f ≠ 3)
theorem may_gate (h : short mo we yd md dy ho mi se po) : Gate (rule_May.f (f, iv, ct, un, wk, en, mo, we, yd, md, dy, ho, mi, se, po, ())) (mayP f iv ct un wk en mo we yd md dy ho mi se po) (rule_May.l5 (f, iv, ct, un, wk, en, mo, we, yd, md, dy, ho, mi, se, po, ())) := by
 have l1t : rule_May.l1 true (f, iv, ct, un, wk, en, mo, we, yd, md, dy, ho, mi, se, po, ()) = some (false, ()) := by rw [rule_May.l1_eq, cond_true]
 have l2t : rule_May.l2 true (f, iv, ct, un, wk, en, mo, we, yd, md, dy, ho, mi, se, po, ()) = some (false, ()) := by rw [rule_May.l2_eq, cond_true]
 have l3t : rule_May.l3 true (f, iv, ct, un, wk, en, mo, we, yd, md, dy, ho, mi, se, po, ()) = some (false, ()) := by rw [rule_May.l3_eq, cond_true]
 have l4t : rule_May.l4 true (f, iv, ct, un, wk, en, mo, we, yd, md, dy, ho, mi, se, po, ()) = some (false, ()) := by rw [rule_May.l4_eq, cond_true]
 have l4f : rule_May.l4 false (f, iv, ct, un, wk, en, mo, we, yd, md, dy, ho, mi, se, po, ()) = rule_May.l5 (f, iv, ct, un, wk, en, mo, we, yd, md, dy, ho, mi, se, po, ()) := by rw [rule_May.l4_eq, cond_false]
 have g3 : Gate (rule_May.l3 false (f, iv, ct, un, wk, en, mo, we, yd, md, dy, ho, mi, se, po, ())) (0 < md.length → f ≠ 3) (rule_May.l5 (f, iv, ct, un, wk, en, mo, we, yd, md, dy, ho, mi, se, po, ())) := by
  rw [rule_May.l3_eq, cond_false]
  by_cases c : (md.length : Int) > 0
  ·rw [dp c, cond_true]
   by_cases c2 : f = 3
   ·rw [dp c2, l4t]
    exact ⟨fun q => absurd c2 (q (by omega)), fun _ => rfl⟩
   ·rw [dn c2, l4f]
    exact ⟨fun _ => rfl, fun q => absurd (fun _ => c2) q⟩
  ·rw [dn c, cond_false, l4f]
   exact ⟨fun _ => rfl, fun q => absurd (fun x => by omega) q⟩
 have g2 : Gate (rule_May.l2 false (f, iv, ct, un, wk, en, mo, we, yd, md, dy, ho, mi, se, po, ())) ((0 < yd.length → ¬ (2 ≤ f ∧ f ≤ 4)) ∧ (0 < md.length → f ≠ 3)) (rule_May.l5 (f, iv, ct, un, wk, en, mo, we, yd, md, dy, ho, mi, se, po, ())) := by
  rw [rule_May.l2_eq, cond_false]
  by_cases c : (yd.length : Int) > 0
  ·rw [dp c, cond_true]
   by_cases c2 : f ≥ 2
   ·rw [dp c2, cond_true]
    by_cases c3 : f ≤ 4
    ·rw [dp c3, l3t]
     exact ⟨fun q => absurd ⟨by omega, c3⟩ (q.1 (by omega)), fun _ => rfl⟩
    ·rw [dn c3]
     exact g3.iff ⟨fun q => ⟨fun _ => by omega, q⟩, fun q => q.2⟩
   ·rw [dn c2, cond_false]
    exact g3.iff ⟨fun q => ⟨fun _ => by omega, q⟩, fun q => q.2⟩
  ·rw [dn c, cond_false]
   exact g3.iff ⟨fun q => ⟨fun x => by omega, q⟩, fun q => q.2⟩
 have g1 : Gate (rule_May.l1 false (f, iv, ct, un, wk, en, mo, we, yd, md, dy, ho, mi, se, po, ())) ((0 < we.length → f = 1) ∧ (0 < yd.length → ¬ (2 ≤ f ∧ f ≤ 4)) ∧ (0 < md.length → f ≠ 3)) (rule_May.l5 (f, iv, ct, un, wk, en, mo, we, yd, md, dy, ho, mi, se, po, ())) := by
  rw [rule_May.l1_eq, cond_false]
  by_cases c : (we.length : Int) > 0
  ·rw [dp c, cond_true]
   by_cases c2 : f = 1
   ·rw [dp c2, Bool.not_true]
    exact g2.iff ⟨fun q => ⟨fun _ => c2, q⟩, fun q => q.2⟩
   ·rw [dn c2, Bool.not_false, l2t]
    exact ⟨fun q => absurd (q.1 (by omega)) c2, fun _ => rfl⟩
  ·rw [dn c, cond_false]
   exact g2.iff ⟨fun q => ⟨fun x => by omega, q⟩, fun q => q.2⟩
 have hL : Gate ((rule_mayLists.f (f, iv, ct, un, wk, en, mo, we, yd, md, dy, ho, mi, se, po, ())).bind fun t2 => rule_May.l1 (!t2.1) (f, iv, ct, un, wk, en, mo, we, yd, md, dy, ho, mi, se, po, ())) (listsP f mo we yd md dy ho mi se po ∧ (0 < we.length → f = 1) ∧ (0 < yd.length → ¬ (2 ≤ f ∧ f ≤ 4)) ∧ (0 < md.length → f ≠ 3)) (rule_May.l5 (f, iv, ct, un, wk, en, mo, we, yd, md, dy, ho, mi, se, po, ())) := by
  have := gate_and (lists_spec f iv ct un wk en mo we yd md dy ho mi se po h) g1
  obtain ⟨b, h1, _⟩ := lists_spec f iv ct un wk en mo we yd md dy ho mi se po h
  rw [h1] at this ⊢
  simp only [Option.bind_some] at this ⊢
  cases b with
  | true => exact this
  | false => rw [Bool.not_false, l1t]; exact this
 rw [rule_May.f_eq]
 have := gate_and (nums_spec f iv ct un wk en mo we yd md dy ho mi se po) hL
 simp only [l1t]
 exact this
end
end Go.GV.YtdnpbkbklnkjoaaGreatDoor
namespace Go.GV.YtdnpbkbklnkjoaaGreatDoor
open Go.Proofs
theorem gate_no {K : Option (Bool × Unit)} {p : Prop} (h : ¬ p) : Gate (some (false, ())) p K := ⟨fun q => absurd q h, fun _ => rfl⟩
theorem wi_one (l : List Int) (hi : Int) (z : Bool) : wi l 1 hi z ↔ wi l 1 hi false := by
 unfold wi
 constructor
 ·exact fun h => ⟨fun j hj => ⟨⟨(h.1 j hj).1.1, (h.1 j hj).1.2.1, fun q => by have := (h.1 j hj).1.1; omega⟩, (h.1 j hj).2⟩, h.2⟩
 ·exact fun h => ⟨fun j hj => ⟨⟨(h.1 j hj).1.1, (h.1 j hj).1.2.1, fun q => by have := (h.1 j hj).1.1; omega⟩, (h.1 j hj).2⟩, h.2⟩
section
variable (f iv ct un wk : Int) (en : Bool) (mo we yd md : List Int) (dy : List Dy) (ho mi se po : List Int)
theorem vgate (h : short mo we yd md dy ho mi se po) : Gate (vokref4_May.f (f, iv, ct, un, wk, en, mo, we, yd, md, dy, ho, mi, se, po, ())) (mayP f iv ct un wk en mo we yd md dy ho mi se po) (vokref4_May.l8 (f, iv, ct, un, wk, en, mo, we, yd, md, dy, ho, mi, se, po, ())) := by
 obtain ⟨h1, h2, h3, h4, h5, h6, h7, h8, h9⟩ := h
 have l1t : vokref4_May.l1 true (f, iv, ct, un, wk, en, mo, we, yd, md, dy, ho, mi, se, po, ()) = some (false, ()) := by rw [vokref4_May.l1_eq, cond_true]
 have l2t : vokref4_May.l2 true (f, iv, ct, un, wk, en, mo, we, yd, md, dy, ho, mi, se, po, ()) = some (false, ()) := by rw [vokref4_May.l2_eq, cond_true]
 have l2f : vokref4_May.l2 false (f, iv, ct, un, wk, en, mo, we, yd, md, dy, ho, mi, se, po, ()) = vokref4_May.l3 (f, iv, ct, un, wk, en, mo, we, yd, md, dy, ho, mi, se, po, ()) := by rw [vokref4_May.l2_eq, cond_false]
 have l4t : vokref4_May.l4 true (f, iv, ct, un, wk, en, mo, we, yd, md, dy, ho, mi, se, po, ()) = some (false, ()) := by rw [vokref4_May.l4_eq, cond_true]
 have l5t : vokref4_May.l5 true (f, iv, ct, un, wk, en, mo, we, yd, md, dy, ho, mi, se, po, ()) = some (false, ()) := by rw [vokref4_May.l5_eq, cond_true]
 have l5f : vokref4_May.l5 false (f, iv, ct, un, wk, en, mo, we, yd, md, dy, ho, mi, se, po, ()) = vokref4_May.l6 (f, iv, ct, un, wk, en, mo, we, yd, md, dy, ho, mi, se, po, ()) := by rw [vokref4_May.l5_eq, cond_false]
 have l7t : vokref4_May.l7 true (f, iv, ct, un, wk, en, mo, we, yd, md, dy, ho, mi, se, po, ()) = some (false, ()) := by rw [vokref4_May.l7_eq, cond_true]
 have l7f : vokref4_May.l7 false (f, iv, ct, un, wk, en, mo, we, yd, md, dy, ho, mi, se, po, ()) = vokref4_May.l8 (f, iv, ct, un, wk, en, mo, we, yd, md, dy, ho, mi, se, po, ()) := by rw [vokref4_May.l7_eq, cond_false]
 have g6 : Gate (vokref4_May.l6 (f, iv, ct, un, wk, en, mo, we, yd, md, dy, ho, mi, se, po, ())) (∀ j, j < dy.length → numd f we dy j) (vokref4_May.l8 (f, iv, ct, un, wk, en, mo, we, yd, md, dy, ho, mi, se, po, ())) := by
  rw [vokref4_May.l6_eq]
  obtain ⟨b, e1, e2⟩ := vnumb_spec dy (by omega)
  rw [e1]
  simp only [Option.bind_some]
  cases b with
  | false =>
   rw [cond_false, l7f]
   have : ∀ j, j < dy.length → numd f we dy j := fun j hj hn => absurd (e2.2 ⟨j, hj, hn⟩) (by simp)
   exact ⟨fun _ => rfl, fun q => absurd this q⟩
  | true =>
   obtain ⟨j, hj, hn⟩ := e2.1 rfl
   rw [cond_true]
   by_cases c2 : f = 2
   ·simp (disch := omega) only [ss, cond_true, cond_false, Option.bind_some, l7f]
    exact ⟨fun _ => rfl, fun q => absurd (fun _ _ _ => .inl c2) q⟩
   ·by_cases c3 : f = 1
    ·by_cases c4 : (we.length : Int) > 0
     ·simp (disch := omega) only [ss, cond_true, cond_false, Option.bind_some, l7t]
      exact gate_no fun q => by rcases q j hj hn with q | q <;> omega
     ·simp (disch := omega) only [ss, cond_true, cond_false, Option.bind_some, l7f]
      exact ⟨fun _ => rfl, fun q => absurd (fun _ _ _ => .inr ⟨c3, by omega⟩) q⟩
    ·simp (disch := omega) only [ss, cond_true, cond_false, Option.bind_some, l7t]
     exact gate_no fun q => by rcases q j hj hn with q | q <;> omega
 have g4 : Gate (vokref4_May.l4 false (f, iv, ct, un, wk, en, mo, we, yd, md, dy, ho, mi, se, po, ())) (((0 < we.length → f = 1) ∧ (0 < yd.length → ¬ (2 ≤ f ∧ f ≤ 4)) ∧ (0 < md.length → f ≠ 3)) ∧ ∀ j, j < dy.length → numd f we dy j) (vokref4_May.l8 (f, iv, ct, un, wk, en, mo, we, yd, md, dy, ho, mi, se, po, ())) := by
  have hm : ((0 < we.length → f = 1) ∧ (0 < yd.length → ¬ (2 ≤ f ∧ f ≤ 4))) → Gate (bif decide ((md.length : Int) > 0) then (vokref4_May.l5 (decide (f = 3)) (f, iv, ct, un, wk, en, mo, we, yd, md, dy, ho, mi, se, po, ())) else (vokref4_May.l5 false (f, iv, ct, un, wk, en, mo, we, yd, md, dy, ho, mi, se, po, ()))) (((0 < we.length → f = 1) ∧ (0 < yd.length → ¬ (2 ≤ f ∧ f ≤ 4)) ∧ (0 < md.length → f ≠ 3)) ∧ ∀ j, j < dy.length → numd f we dy j) (vokref4_May.l8 (f, iv, ct, un, wk, en, mo, we, yd, md, dy, ho, mi, se, po, ())) := fun hh => by
   by_cases c : (md.length : Int) > 0
   ·rw [dp c, cond_true]
    by_cases c2 : f = 3
    ·rw [dp c2, l5t]
     exact gate_no fun q => q.1.2.2 (by omega) c2
    ·rw [dn c2, l5f]
     exact g6.iff ⟨fun q => ⟨⟨hh.1, hh.2, fun _ => c2⟩, q⟩, fun q => q.2⟩
   ·rw [dn c, cond_false, l5f]
    exact g6.iff ⟨fun q => ⟨⟨hh.1, hh.2, fun x => by omega⟩, q⟩, fun q => q.2⟩
  have hy : (0 < we.length → f = 1) → Gate (bif decide ((yd.length : Int) > 0) then (bif decide (f ≥ 2) then (bif decide (f ≤ 4) then (vokref4_May.l5 true (f, iv, ct, un, wk, en, mo, we, yd, md, dy, ho, mi, se, po, ())) else (bif decide ((md.length : Int) > 0) then (vokref4_May.l5 (decide (f = 3)) (f, iv, ct, un, wk, en, mo, we, yd, md, dy, ho, mi, se, po, ())) else (vokref4_May.l5 false (f, iv, ct, un, wk, en, mo, we, yd, md, dy, ho, mi, se, po, ())))) else (bif decide ((md.length : Int) > 0) then (vokref4_May.l5 (decide (f = 3)) (f, iv, ct, un, wk, en, mo, we, yd, md, dy, ho, mi, se, po, ())) else (vokref4_May.l5 false (f, iv, ct, un, wk, en, mo, we, yd, md, dy, ho, mi, se, po, ())))) else (bif decide ((md.length : Int) > 0) then (vokref4_May.l5 (decide (f = 3)) (f, iv, ct, un, wk, en, mo, we, yd, md, dy, ho, mi, se, po, ())) else (vokref4_May.l5 false (f, iv, ct, un, wk, en, mo, we, yd, md, dy, ho, mi, se, po, ())))) (((0 < we.length → f = 1) ∧ (0 < yd.length → ¬ (2 ≤ f ∧ f ≤ 4)) ∧ (0 < md.length → f ≠ 3)) ∧ ∀ j, j < dy.length → numd f we dy j) (vokref4_May.l8 (f, iv, ct, un, wk, en, mo, we, yd, md, dy, ho, mi, se, po, ())) := fun hh => by
   by_cases c : (yd.length : Int) > 0
   ·rw [dp c, cond_true]
    by_cases c2 : f ≥ 2
    ·rw [dp c2, cond_true]
     by_cases c3 : f ≤ 4
     ·rw [dp c3, cond_true, l5t]
      exact gate_no fun q => q.1.2.1 (by omega) ⟨by omega, c3⟩
     ·rw [dn c3, cond_false]
      exact hm ⟨hh, fun _ => by omega⟩
    ·rw [dn c2, cond_false]
     exact hm ⟨hh, fun _ => by omega⟩
   ·rw [dn c, cond_false]
    exact hm ⟨hh, fun x => by omega⟩
  rw [vokref4_May.l4_eq, cond_false]
  by_cases c : (we.length : Int) > 0
  ·rw [dp c, cond_true]
   by_cases c2 : f = 1
   ·rw [dp c2, Bool.not_true, cond_false]
    exact hy fun _ => c2
   ·rw [dn c2, Bool.not_false, cond_true, l5t]
    exact gate_no fun q => c2 (q.1.1 (by omega))
  ·rw [dn c, cond_false]
   exact hy fun x => by omega
 have g3 : Gate (vokref4_May.l3 (f, iv, ct, un, wk, en, mo, we, yd, md, dy, ho, mi, se, po, ())) (wi mo 1 12 true ∧ wi we (-53) 53 false ∧ wi yd (-366) 366 false ∧ wi md (-31) 31 false ∧ wi po (-366) 366 false ∧ wi ho 0 23 true ∧ wi mi 0 59 true ∧ wi se 0 59 true ∧ dwi dy ∧ (((0 < we.length → f = 1) ∧ (0 < yd.length → ¬ (2 ≤ f ∧ f ≤ 4)) ∧ (0 < md.length → f ≠ 3)) ∧ ∀ j, j < dy.length → numd f we dy j)) (vokref4_May.l8 (f, iv, ct, un, wk, en, mo, we, yd, md, dy, ho, mi, se, po, ())) := by
  have hlast : ∀ {q : Prop}, Gate (vokref4_May.l4 false (f, iv, ct, un, wk, en, mo, we, yd, md, dy, ho, mi, se, po, ())) q (vokref4_May.l8 (f, iv, ct, un, wk, en, mo, we, yd, md, dy, ho, mi, se, po, ())) → Gate ((vokref4_dayList.f dy).bind fun t10 => vokref4_May.l4 (!t10.1) (f, iv, ct, un, wk, en, mo, we, yd, md, dy, ho, mi, se, po, ())) (dwi dy ∧ q) (vokref4_May.l8 (f, iv, ct, un, wk, en, mo, we, yd, md, dy, ho, mi, se, po, ())) := fun {q} hq => by
   have := gate_and (vdl_spec dy (by omega)) hq
   obtain ⟨b, e1, _⟩ := vdl_spec dy (by omega)
   rw [e1] at this ⊢
   simp only [Option.bind_some] at this ⊢
   cases b with
   | true => exact this
   | false => rw [Bool.not_false, l4t]; exact this
  rw [vokref4_May.l3_eq]
  simp only [l4t]
  exact gate_and (vwithin_spec mo 1 12 true (by omega)) (gate_and (vwithin_spec we (-53) 53 false (by omega)) (gate_and (vwithin_spec yd (-366) 366 false (by omega)) (gate_and (vwithin_spec md (-31) 31 false (by omega)) (gate_and (vwithin_spec po (-366) 366 false (by omega)) (gate_and (vwithin_spec ho 0 23 true (by omega)) (gate_and (vwithin_spec mi 0 59 true (by omega)) (gate_and (vwithin_spec se 0 59 true (by omega)) (hlast g4))))))))
 have g3' := g3.iff (q := listsP f mo we yd md dy ho mi se po ∧ (0 < we.length → f = 1) ∧ (0 < yd.length → ¬ (2 ≤ f ∧ f ≤ 4)) ∧ (0 < md.length → f ≠ 3)) (by
  rw [wi_one mo 12 true]
  unfold listsP
  constructor
  ·rintro ⟨a1, a2, a3, a4, a5, a6, a7, a8, a9, a10, a11⟩
   exact ⟨⟨a1, a2, a3, a4, a6, a7, a8, a5, a9, a11⟩, a10⟩
  ·rintro ⟨⟨a1, a2, a3, a4, a6, a7, a8, a5, a9, a11⟩, a10⟩
   exact ⟨a1, a2, a3, a4, a5, a6, a7, a8, a9, a10, a11⟩)
 have no : ¬ numP f iv ct un wk en → Gate (some (false, ())) (mayP f iv ct un wk en mo we yd md dy ho mi se po) (vokref4_May.l8 (f, iv, ct, un, wk, en, mo, we, yd, md, dy, ho, mi, se, po, ())) := fun hn => gate_no fun q => hn q.1
 have yes : numP f iv ct un wk en → Gate (vokref4_May.l3 (f, iv, ct, un, wk, en, mo, we, yd, md, dy, ho, mi, se, po, ())) (mayP f iv ct un wk en mo we yd md dy ho mi se po) (vokref4_May.l8 (f, iv, ct, un, wk, en, mo, we, yd, md, dy, ho, mi, se, po, ())) := fun hn => g3'.iff ⟨fun q => ⟨hn, q⟩, fun q => q.2⟩
 rw [vokref4_May.f_eq]
 dsimp only
 by_cases c : 1 ≤ f ∧ f ≤ 7 ∧ 1 ≤ iv ∧ iv ≤ 1000 ∧ 0 ≤ ct ∧ ct ≤ 4096 ∧ 0 ≤ wk ∧ wk ≤ 6
 ·have c' := c
  obtain ⟨c1, c2, c3, c4, c5, c6, c7, c8⟩ := c
  simp (disch := omega) only [ss, cond_true, cond_false, Option.bind_some, vokref4_May.l1_eq, vokref1_May.f_eq]
  cases en with
  | true =>
   simp (disch := omega) only [ss, cond_true, cond_false, Option.bind_some]
   by_cases d0 : ct > 0
   ·simp (disch := omega) only [ss, cond_true, cond_false, Option.bind_some, l2t]
    exact no fun q => by have := (q.2.1 rfl).2; omega
   ·by_cases d1 : un ≥ -62135596800
    ·by_cases d2 : un < 253402300800
     ·simp (disch := omega) only [ss, cond_true, cond_false, Option.bind_some, l2f]
      exact yes ⟨c', fun _ => ⟨⟨by omega, by omega⟩, by omega⟩, fun q => by cases q⟩
     ·simp (disch := omega) only [ss, cond_true, cond_false, Option.bind_some, l2t]
      exact no fun q => by have := (q.2.1 rfl).1; omega
    ·simp (disch := omega) only [ss, cond_true, cond_false, Option.bind_some, l2t]
     exact no fun q => by have := (q.2.1 rfl).1; omega
  | false =>
   by_cases d0 : un = 0
   ·simp (disch := omega) only [ss, cond_true, cond_false, Option.bind_some, l2f]
    exact yes ⟨c', (fun q => by cases q), fun _ => d0⟩
   ·simp (disch := omega) only [ss, cond_true, cond_false, Option.bind_some, l2t]
    exact no fun q => d0 (q.2.2 rfl)
 ·have hn := no fun q => c q.1
  have hb : ∀ {p : Prop} [Decidable p] {x : Option (Bool × Unit)}, (¬ p → Gate x (mayP f iv ct un wk en mo we yd md dy ho mi se po) (vokref4_May.l8 (f, iv, ct, un, wk, en, mo, we, yd, md, dy, ho, mi, se, po, ()))) → Gate (bif decide p then (some (false, ())) else x) (mayP f iv ct un wk en mo we yd md dy ho mi se po) (vokref4_May.l8 (f, iv, ct, un, wk, en, mo, we, yd, md, dy, ho, mi, se, po, ())) := fun {p} _ {x} h1 => by
   by_cases hp : p
   ·rw [dp hp, cond_true]; exact hn
   ·rw [dn hp, cond_false]; exact h1 hp
  rw [l1t]
  refine hb fun d1 => hb fun d2 => hb fun d3 => hb fun d4 => hb fun d5 => hb fun d6 => hb fun d7 => ?_
  have : wk > 6 := by omega
  rw [dp this, l1t]
  exact hn
theorem tail_same : rule_May.l5 (f, iv, ct, un, wk, en, mo, we, yd, md, dy, ho, mi, se, po, ()) = vokref4_May.l8 (f, iv, ct, un, wk, en, mo, we, yd, md, dy, ho, mi, se, po, ()) := by
 have e7 : rule_May.l7 (f, iv, ct, un, wk, en, mo, we, yd, md, dy, ho, mi, se, po, ()) = vokref4_May.l10 (f, iv, ct, un, wk, en, mo, we, yd, md, dy, ho, mi, se, po, ()) := by rw [rule_May.l7_eq, vokref4_May.l10_eq]
 have e6 : ∀ b, rule_May.l6 b (f, iv, ct, un, wk, en, mo, we, yd, md, dy, ho, mi, se, po, ()) = vokref4_May.l9 b (f, iv, ct, un, wk, en, mo, we, yd, md, dy, ho, mi, se, po, ()) := fun b => by rw [rule_May.l6_eq, vokref4_May.l9_eq, e7]
 rw [rule_May.l5_eq, vokref4_May.l8_eq, e6, e6]
end
theorem may_same (r : Rl) (h : short r.2.2.2.2.2.2.1 r.2.2.2.2.2.2.2.1 r.2.2.2.2.2.2.2.2.1 r.2.2.2.2.2.2.2.2.2.1 r.2.2.2.2.2.2.2.2.2.2.1 r.2.2.2.2.2.2.2.2.2.2.2.1 r.2.2.2.2.2.2.2.2.2.2.2.2.1 r.2.2.2.2.2.2.2.2.2.2.2.2.2.1 r.2.2.2.2.2.2.2.2.2.2.2.2.2.2.1) : rule_May.f r = vokref4_May.f r := by
 obtain ⟨f, iv, ct, un, wk, en, mo, we, yd, md, dy, ho, mi, se, po, ⟨⟩⟩ := r
 have g1 := may_gate f iv ct un wk en mo we yd md dy ho mi se po h
 rw [tail_same] at g1
 exact g1.eq (vgate f iv ct un wk en mo we yd md dy ho mi se po h)
theorem may_some (r : Rl) (h : short r.2.2.2.2.2.2.1 r.2.2.2.2.2.2.2.1 r.2.2.2.2.2.2.2.2.1 r.2.2.2.2.2.2.2.2.2.1 r.2.2.2.2.2.2.2.2.2.2.1 r.2.2.2.2.2.2.2.2.2.2.2.1 r.2.2.2.2.2.2.2.2.2.2.2.2.1 r.2.2.2.2.2.2.2.2.2.2.2.2.2.1 r.2.2.2.2.2.2.2.2.2.2.2.2.2.2.1) : ∃ b, rule_May.f r = some (b, ()) := by
 obtain ⟨f, iv, ct, un, wk, en, mo, we, yd, md, dy, ho, mi, se, po, ⟨⟩⟩ := r
 have g1 := may_gate f iv ct un wk en mo we yd md dy ho mi se po h
 by_cases hp : mayP f iv ct un wk en mo we yd md dy ho mi se po
 ·rw [g1.1 hp, rule_May.l5_eq]
  have e7 : ∃ b, rule_May.l7 (f, iv, ct, un, wk, en, mo, we, yd, md, dy, ho, mi, se, po, ()) = some (b, ()) := by
   rw [rule_May.l7_eq]
   cases decide (f > 4) with
   | true => exact ⟨_, rfl⟩
   | false => exact ⟨_, rfl⟩
  have e6 : ∀ c, ∃ b, rule_May.l6 c (f, iv, ct, un, wk, en, mo, we, yd, md, dy, ho, mi, se, po, ()) = some (b, ()) := fun c => by
   rw [rule_May.l6_eq]
   cases c with
   | true => exact ⟨_, rfl⟩
   | false => exact e7
  cases decide ((po.length : Int) > 0) with
  | true => exact e6 _
  | false => exact e6 _
 ·exact ⟨false, g1.2 hp⟩
end Go.GV.YtdnpbkbklnkjoaaGreatDoor
namespace Go.GV.YtdnpbkbklnkjoaaGreatDoor
open Go.Proofs
theorem index_l1 (l : List Int) (x : Int) (hl : l.length ≤ 1000000) : ∀ (k i : Nat), l.length - i = k → i ≤ l.length → ∃ n : Int, slices_Index_int_int.l1 l x l.length i = some (n, ()) ∧ (n ≥ 0 ↔ x ∈ l.drop i) := by
 intro k
 induction k with
 | zero =>
  intro i hk hil
  refine ⟨-1, ?_, ?_⟩
  ·rw [slices_Index_int_int.l1_eq]
   simp (disch := omega) only [ss, cond_true, cond_false, Option.bind_some]
  ·rw [List.drop_eq_nil_of_le (by omega)]
   simp
 | succ k ih =>
  intro i hk hil
  have hlt : i < l.length := by omega
  rw [slices_Index_int_int.l1_eq, drop_getD' 0 hlt]
  by_cases c : x = l.getD i 0
  ·refine ⟨i, ?_, ?_⟩
   ·simp (disch := omega) only [ss, cond_true, cond_false, Option.bind_some]
   ·exact ⟨fun _ => by rw [c]; exact List.mem_cons_self .., fun _ => by omega⟩
  ·obtain ⟨n, h1, h2⟩ := ih (i + 1) (by omega) (by omega)
   rw [Int.natCast_add, Int.natCast_one] at h1
   refine ⟨n, ?_, ?_⟩
   ·simp (disch := omega) only [ss, cond_true, cond_false, Option.bind_some, h1]
   ·rw [h2, List.mem_cons]
    exact ⟨.inr, fun h => h.resolve_left c⟩
theorem contains_int (l : List Int) (x : Int) (hl : l.length ≤ 1000000) : slices_Contains_int_int.f l x = some (decide (x ∈ l), ()) := by
 obtain ⟨n, h1, h2⟩ := index_l1 l x hl _ 0 rfl (Nat.zero_le _)
 rw [Int.natCast_zero] at h1
 rw [List.drop_zero] at h2
 rw [slices_Contains_int_int.f_eq, slices_Index_int_int.f_eq, h1]
 simp only [Option.bind_some]
 rw [decide_eq_decide.2 h2]
theorem has_spec (l : List Int) (x : Int) (hl : l.length ≤ 1000000) : vokref_Has.f l x = some (decide (x ∈ l), ()) := by
 have key : ∀ (k i : Nat), l.length - i = k → i ≤ l.length → vokref_Has.l1 l x i = some (decide (x ∈ l.drop i), ()) := by
  intro k
  induction k with
  | zero =>
   intro i hk hil
   rw [vokref_Has.l1_eq, List.drop_eq_nil_of_le (by omega)]
   simp (disch := omega) only [ss, cond_true, cond_false, Option.bind_some]
   rfl
  | succ k ih =>
   intro i hk hil
   have hlt : i < l.length := by omega
   have := ih (i + 1) (by omega) (by omega)
   rw [Int.natCast_add, Int.natCast_one] at this
   rw [vokref_Has.l1_eq, drop_getD' 0 hlt]
   by_cases c : l.getD i 0 = x
   ·rw [dp (show x ∈ l.getD i 0 :: l.drop (i + 1) by rw [c]; exact List.mem_cons_self ..)]
    simp (disch := omega) only [ss, cond_true, cond_false, Option.bind_some]
   ·have e : decide (x ∈ l.getD i 0 :: l.drop (i + 1)) = decide (x ∈ l.drop (i + 1)) := decide_eq_decide.2 (by rw [List.mem_cons]; exact ⟨fun h => h.resolve_left fun q => c q.symm, .inr⟩)
    rw [e]
    simp (disch := omega) only [ss, cond_true, cond_false, Option.bind_some, this]
 have := key _ 0 rfl (Nat.zero_le _)
 rw [Int.natCast_zero, List.drop_zero] at this
 rw [vokref_Has.f_eq]
 exact this
def hasP (l : List Int) (n all : Int) : Prop := l = [] ∨ n ∈ l ∨ n - all - 1 ∈ l
theorem dhas_spec (l : List Int) (n all : Int) (hl : l.length ≤ 1000000) (hn : 0 ≤ n ∧ n ≤ 1000) (ha : 0 ≤ all ∧ all ≤ 1000) : Tells (days_has.f l n all) (hasP l n all) := by
 unfold hasP
 rw [days_has.f_eq]
 by_cases c : l = []
 ·subst c
  rw [List.length_nil]
  exact ⟨true, by simp (disch := omega) only [ss, cond_true, cond_false, Option.bind_some], by simp⟩
 ·have hp : ¬ (l.length : Int) = 0 := by have := List.length_pos_iff.2 c; omega
  by_cases c1 : n ∈ l
  ·exact ⟨true, by simp (disch := omega) only [ss, cond_true, cond_false, Option.bind_some, contains_int l n hl, dp c1], by simp [c1]⟩
  ·refine ⟨decide (n - all - 1 ∈ l), ?_, ?_⟩
   ·simp (disch := omega) only [ss, cond_true, cond_false, Option.bind_some, contains_int l _ hl, dn c1]
   ·rw [decide_eq_true_iff]
    simp [c, c1]
theorem ylen_spec (y : Int) (hy : 0 ≤ y) : days_yearLength.f y = some (cum y 13, ()) := by
 rw [days_yearLength.f_eq, leap_spec y hy]
 have h3 : (3 : Int) ≤ 13 := by omega
 unfold cum cumT
 cases leapB y with
 | true => simp
 | false => simp
theorem of_spec (n y m d : Int) (e : civil_Date.f n = some (y, m, d, 0, ())) : days_of.f n = some ((n, y, m, d, wk n, ()), true, ()) := by
 rw [days_of.f_eq, e]
 simp only [Option.bind_some]
 rw [weekday_spec]
 rfl
theorem of_none (n : Int) (h : ¬ (-719162 ≤ n ∧ n ≤ 2932896)) : days_of.f n = some ((n, 0, 0, 0, wk n, ()), false, ()) := by
 rw [days_of.f_eq, (date_none n h).1]
 simp only [Option.bind_some]
 rw [weekday_spec]
 rfl
def wdP (f : Int) (mo : List Int) (dy : List Dy) (n y m d : Int) : Prop :=
 dy = [] ∨ ∃ x ∈ dy, x.2.1 = wk n ∧ (x.1 = 0 ∨ x.1 = ((if f = 2 ∨ mo ≠ [] then d else n - fst_ y + 1) - 1) / 7 + 1 ∨ x.1 = -(((if f = 2 ∨ mo ≠ [] then mlen y m else cum y 13) - (if f = 2 ∨ mo ≠ [] then d else n - fst_ y + 1)) / 7 + 1))
theorem wd_loop (fr bk n y m d : Int) (l : List Dy) (hl : l.length ≤ 1000000) : ∀ (k i : Nat), l.length - i = k → i ≤ l.length →
  Tells (days_wdayFits.l3 fr bk l l.length i (n, y, m, d, wk n, ())) (∃ x ∈ l.drop i, x.2.1 = wk n ∧ (x.1 = 0 ∨ x.1 = fr ∨ x.1 = bk)) := by
 intro k
 induction k with
 | zero =>
  intro i hk hil
  rw [days_wdayFits.l3_eq, List.drop_eq_nil_of_le (by omega)]
  exact ⟨false, by simp (disch := omega) only [ss, cond_true, cond_false, Option.bind_some], by simp⟩
 | succ k ih =>
  intro i hk hil
  have hlt : i < l.length := by omega
  obtain ⟨b, h1, h2⟩ := ih (i + 1) (by omega) (by omega)
  rw [Int.natCast_add, Int.natCast_one] at h1
  rw [days_wdayFits.l3_eq, drop_getD' ((0, 0, ()) : Dy) hlt]
  generalize hx : l.getD i ((0, 0, ()) : Dy) = x
  have hx' : l.getD i ((0, 0, ()) : Int × Int × Unit) = x := hx
  by_cases c : x.2.1 = wk n ∧ (x.1 = 0 ∨ x.1 = fr ∨ x.1 = bk)
  ·refine ⟨true, ?_, by simp only [true_iff]; exact ⟨x, List.mem_cons_self .., c⟩⟩
   obtain ⟨c1, c2⟩ := c
   by_cases d0 : x.1 = 0
   ·simp (disch := omega) only [ss, cond_true, cond_false, Option.bind_some, hx', days_wdayFits.l4_eq]
   ·by_cases d1 : x.1 = fr
    ·simp (disch := omega) only [ss, cond_true, cond_false, Option.bind_some, hx', days_wdayFits.l4_eq]
    ·have d2 : x.1 = bk := by omega
     simp (disch := omega) only [ss, cond_true, cond_false, Option.bind_some, hx', days_wdayFits.l4_eq]
  ·refine ⟨b, ?_, ?_⟩
   ·by_cases c1 : x.2.1 = wk n
    ·have d0 : ¬ x.1 = 0 := fun q => c ⟨c1, .inl q⟩
     have d1 : ¬ x.1 = fr := fun q => c ⟨c1, .inr (.inl q)⟩
     have d2 : ¬ x.1 = bk := fun q => c ⟨c1, .inr (.inr q)⟩
     simp (disch := omega) only [ss, cond_true, cond_false, Option.bind_some, hx', days_wdayFits.l4_eq, h1]
    ·simp (disch := omega) only [ss, cond_true, cond_false, Option.bind_some, hx', days_wdayFits.l4_eq, h1]
   ·rw [h2]
    constructor
    ·rintro ⟨z, hz, h⟩
     exact ⟨z, List.mem_cons_of_mem _ hz, h⟩
    ·rintro ⟨z, hz, h⟩
     rcases List.mem_cons.1 hz with e | hz
     ·exact absurd (e ▸ h) c
     ·exact ⟨z, hz, h⟩
section
variable (f iv ct un wkst : Int) (en : Bool) (mo we yd md : List Int) (dy : List Dy) (ho mi se po : List Int)
theorem wday_fits (n y m d : Int) (hs : mo.length ≤ 100000 ∧ dy.length ≤ 100000) (h : isDate n y m d) (e : civil_Date.f n = some (y, m, d, 0, ())) :
  Tells (days_wdayFits.f (f, iv, ct, un, wkst, en, mo, we, yd, md, dy, ho, mi, se, po, ()) (n, y, m, d, wk n, ())) (wdP f mo dy n y m d) := by
 obtain ⟨q1, q2, q3, q4, q5, q6⟩ := date_bd h
 obtain ⟨v1, v2, v3, v4⟩ := valid_iff.1 h.1
 have hy := fst_step0 y (by omega)
 have h13 := cum13 y
 have hs13 := fst_step y v1
 have hml := mlen_bd y m
 have hl0 := wd_loop
 unfold wdP
 rw [days_wdayFits.f_eq]
 by_cases c : dy = []
 ·subst c
  exact ⟨true, by simp (disch := omega) only [ss, cond_true, cond_false, Option.bind_some, List.length_nil], by simp⟩
 ·have hp : ¬ (dy.length : Int) = 0 := by have := List.length_pos_iff.2 c; omega
  have go : ∀ at_ all : Int, 1 ≤ at_ → at_ ≤ all → all ≤ 400 → Tells (days_wdayFits.l2 at_ all (f, iv, ct, un, wkst, en, mo, we, yd, md, dy, ho, mi, se, po, ()) (n, y, m, d, wk n, ())) (∃ x ∈ dy, x.2.1 = wk n ∧ (x.1 = 0 ∨ x.1 = (at_ - 1) / 7 + 1 ∨ x.1 = -((all - at_) / 7 + 1))) := fun at_ all a1 a2 a3 => by
   have := wd_loop ((at_ - 1) / 7 + 1) (-((all - at_) / 7 + 1)) n y m d dy (by omega) _ 0 rfl (Nat.zero_le _)
   rw [Int.natCast_zero, List.drop_zero] at this
   have e0 : 0 - ((all - at_) / 7 + 1) = -((all - at_) / 7 + 1) := by omega
   rw [days_wdayFits.l2_eq]
   simp (disch := omega) only [ss, cond_true, cond_false, Option.bind_some, tdn (show (0 : Int) ≤ at_ - 1 by omega), tdn (show (0 : Int) ≤ all - at_ by omega), e0]
   exact this
  have e1 := yearday_spec n y m d h e
  have e2 := ylen_spec y (by omega)
  have e3 := length_spec y m (by omega)
  by_cases c2 : f = 2 ∨ mo ≠ []
  ·have l1 : days_wdayFits.l1 (n - fst_ y + 1) (cum y 13) true (f, iv, ct, un, wkst, en, mo, we, yd, md, dy, ho, mi, se, po, ()) (n, y, m, d, wk n, ()) = days_wdayFits.l2 d (mlen y m) (f, iv, ct, un, wkst, en, mo, we, yd, md, dy, ho, mi, se, po, ()) (n, y, m, d, wk n, ()) := by
    rw [days_wdayFits.l1_eq]
    simp (disch := omega) only [ss, cond_true, cond_false, Option.bind_some, e3]
   rw [if_pos c2, if_pos c2]
   have g := go d (mlen y m) v3 v4 (by omega)
   have hc : (dy = [] ∨ ∃ x ∈ dy, x.2.1 = wk n ∧ (x.1 = 0 ∨ x.1 = (d - 1) / 7 + 1 ∨ x.1 = -((mlen y m - d) / 7 + 1))) ↔ (∃ x ∈ dy, x.2.1 = wk n ∧ (x.1 = 0 ∨ x.1 = (d - 1) / 7 + 1 ∨ x.1 = -((mlen y m - d) / 7 + 1))) := ⟨fun h => h.resolve_left c, .inr⟩
   refine Tells.iff ?_ hc.symm
   by_cases c3 : f = 2
   ·simp (disch := omega) only [ss, cond_true, cond_false, Option.bind_some, e1, e2, l1]
    exact g
   ·have hm : mo ≠ [] := c2.resolve_left c3
    have hmp : (mo.length : Int) > 0 := by have := List.length_pos_iff.2 hm; omega
    simp (disch := omega) only [ss, cond_true, cond_false, Option.bind_some, e1, e2, l1]
    exact g
  ·rw [if_neg c2, if_neg c2]
   have c3 : ¬ f = 2 := fun q => c2 (.inl q)
   have c4 : mo = [] := Classical.byContradiction fun q => c2 (.inr q)
   subst c4
   have l1 : days_wdayFits.l1 (n - fst_ y + 1) (cum y 13) false (f, iv, ct, un, wkst, en, [], we, yd, md, dy, ho, mi, se, po, ()) (n, y, m, d, wk n, ()) = days_wdayFits.l2 (n - fst_ y + 1) (cum y 13) (f, iv, ct, un, wkst, en, [], we, yd, md, dy, ho, mi, se, po, ()) (n, y, m, d, wk n, ()) := by
    rw [days_wdayFits.l1_eq, cond_false]
   have g := go (n - fst_ y + 1) (cum y 13) (by omega) (by omega) (by omega)
   have hc : (dy = [] ∨ ∃ x ∈ dy, x.2.1 = wk n ∧ (x.1 = 0 ∨ x.1 = (n - fst_ y + 1 - 1) / 7 + 1 ∨ x.1 = -((cum y 13 - (n - fst_ y + 1)) / 7 + 1))) ↔ (∃ x ∈ dy, x.2.1 = wk n ∧ (x.1 = 0 ∨ x.1 = (n - fst_ y + 1 - 1) / 7 + 1 ∨ x.1 = -((cum y 13 - (n - fst_ y + 1)) / 7 + 1))) := ⟨fun h => h.resolve_left c, .inr⟩
   refine Tells.iff ?_ hc.symm
   have hnil : (([] : List Int).length : Int) = 0 := rfl
   simp (disch := omega) only [ss, cond_true, cond_false, Option.bind_some, e1, e2, hnil, l1]
   exact g
def stP (m0 d0 w0 n m d : Int) : Prop := (yd ≠ [] ∨ md ≠ [] ∨ dy ≠ []) ∨ ((we ≠ [] ∧ wk n = w0) ∨ (we = [] ∧ ((f = 1 ∧ d = d0 ∧ (mo ≠ [] ∨ m = m0)) ∨ (f = 2 ∧ d = d0) ∨ (f = 3 ∧ wk n = w0) ∨ (f ≠ 1 ∧ f ≠ 2 ∧ f ≠ 3))))
theorem ne_len {α : Type} {l : List α} : l ≠ [] ↔ (l.length : Int) > 0 := by
 rw [← List.length_pos_iff]
 omega
theorem start_fits (s sec n0 y0 m0 d0 w0 n y m d : Int) (hs : mo.length ≤ 100000 ∧ we.length ≤ 100000 ∧ yd.length ≤ 100000 ∧ md.length ≤ 100000 ∧ dy.length ≤ 100000) :
  Tells (days_Plan_startFits.f ((f, iv, ct, un, wkst, en, mo, we, yd, md, dy, ho, mi, se, po, ()), s, (n0, y0, m0, d0, w0, ()), sec, ()) (n, y, m, d, wk n, ())) (stP f mo we yd md dy m0 d0 w0 n m d) := by
 unfold stP
 rw [days_Plan_startFits.f_eq]
 by_cases c : yd ≠ [] ∨ md ≠ [] ∨ dy ≠ []
 ·have hp : (yd.length : Int) + (md.length : Int) + (dy.length : Int) > 0 := by
   rw [ne_len, ne_len, ne_len] at c
   omega
  exact ⟨true, by simp (disch := omega) only [ss, cond_true, cond_false, Option.bind_some], by simp [c]⟩
 ·have hp : ¬ (yd.length : Int) + (md.length : Int) + (dy.length : Int) > 0 := by
   rw [ne_len, ne_len, ne_len] at c
   omega
  by_cases c1 : we = []
  ·subst c1
   have hnil : (([] : List Int).length : Int) = 0 := rfl
   by_cases f1 : f = 1
   ·subst f1
    by_cases dd : d = d0
    ·by_cases mm_ : mo = []
     ·subst mm_
      refine ⟨decide (m = m0), by simp (disch := omega) only [ss, cond_true, cond_false, Option.bind_some, hnil], ?_⟩
      rw [decide_eq_true_iff]
      simp [c, dd]
     ·have hmp : (mo.length : Int) > 0 := ne_len.1 mm_
      exact ⟨true, by simp (disch := omega) only [ss, cond_true, cond_false, Option.bind_some, hnil], by simp [dd, mm_]⟩
    ·exact ⟨false, by simp (disch := omega) only [ss, cond_true, cond_false, Option.bind_some, hnil], by simp [c, dd]⟩
   ·by_cases f2 : f = 2
    ·subst f2
     refine ⟨decide (d = d0), by simp (disch := omega) only [ss, cond_true, cond_false, Option.bind_some, hnil], ?_⟩
     rw [decide_eq_true_iff]
     simp [c]
    ·by_cases f3 : f = 3
     ·subst f3
      refine ⟨decide (wk n = w0), by simp (disch := omega) only [ss, cond_true, cond_false, Option.bind_some, hnil], ?_⟩
      rw [decide_eq_true_iff]
      simp [c]
     ·exact ⟨true, by simp (disch := omega) only [ss, cond_true, cond_false, Option.bind_some, hnil], by simp [f1, f2, f3]⟩
  ·have hwp : (we.length : Int) > 0 := ne_len.1 c1
   refine ⟨decide (wk n = w0), by simp (disch := omega) only [ss, cond_true, cond_false, Option.bind_some], ?_⟩
   rw [decide_eq_true_iff]
   simp [c, c1]
def wkP (n : Int) : Prop := we = [] ∨ ∃ Y k, isWeek n wkst Y k ∧ 1 ≤ Y ∧ Y ≤ 9999 ∧ hasP we k (wks Y wkst)
theorem week_fits (n y m d : Int) (hs : we.length ≤ 100000) (h : isDate n y m d) (hw : 0 ≤ wkst ∧ wkst ≤ 6) :
  Tells (days_weekFits.f (f, iv, ct, un, wkst, en, mo, we, yd, md, dy, ho, mi, se, po, ()) (n, y, m, d, wk n, ())) (wkP wkst we n) := by
 obtain ⟨q1, q2, q3, q4, q5, q6⟩ := date_bd h
 unfold wkP
 rw [days_weekFits.f_eq]
 by_cases c : we = []
 ·subst c
  exact ⟨true, by simp (disch := omega) only [ss, cond_true, cond_false, Option.bind_some, List.length_nil], by simp⟩
 ·have hwp : (we.length : Int) > 0 := ne_len.1 c
  obtain ⟨Y, k, w1_, w2, w3, w4, w5, w6, _⟩ := week_spec n wkst q5 q6 hw.1 hw.2
  have hW := weeks_spec Y wkst
  by_cases cY : 1 ≤ Y ∧ Y ≤ 9999
  ·rw [if_pos ⟨cY, hw⟩] at hW
   have hb := wks_bd Y wkst (by omega)
   obtain ⟨b, h1, h2⟩ := dhas_spec we k (wks Y wkst) (by omega) (by omega) (by omega)
   refine ⟨b, by simp (disch := omega) only [ss, cond_true, cond_false, Option.bind_some, w6, hW, h1], ?_⟩
   rw [h2]
   constructor
   ·exact fun h => .inr ⟨Y, k, w1_, cY.1, cY.2, h⟩
   ·rintro (q | ⟨Y', k', x1, x2, x3, x4⟩)
    ·exact absurd q c
    ·obtain ⟨e1, e2⟩ := week_uniq w2 (by omega) w1_ x1
     rw [e1, e2]
     exact x4
  ·rw [if_neg fun q => cY q.1] at hW
   refine ⟨false, by simp (disch := omega) only [ss, cond_true, cond_false, Option.bind_some, w6, hW], ?_⟩
   simp only [Bool.false_eq_true, false_iff]
   rintro (q | ⟨Y', k', x1, x2, x3, _⟩)
   ·exact c q
   ·obtain ⟨e1, _⟩ := week_uniq w2 (by omega) w1_ x1
    exact cY (by omega)
end
end Go.GV.YtdnpbkbklnkjoaaGreatDoor
namespace Go.GV.YtdnpbkbklnkjoaaGreatDoor
open Go.Proofs
def shortR (r : Rl) : Prop := short r.2.2.2.2.2.2.1 r.2.2.2.2.2.2.2.1 r.2.2.2.2.2.2.2.2.1 r.2.2.2.2.2.2.2.2.2.1 r.2.2.2.2.2.2.2.2.2.2.1 r.2.2.2.2.2.2.2.2.2.2.2.1 r.2.2.2.2.2.2.2.2.2.2.2.2.1 r.2.2.2.2.2.2.2.2.2.2.2.2.2.1 r.2.2.2.2.2.2.2.2.2.2.2.2.2.2.1
theorem few_step {p : Prop} [Decidable p] {X : Option (Bool × Unit)} {Q : Prop} (h : p → ∃ b, X = some (b, ()) ∧ (b = true → Q)) : ∃ b, (bif decide p then X else some (false, ())) = some (b, ()) ∧ (b = true → Q) := by
 by_cases c : p
 ·rw [dp c]
  exact h c
 ·rw [dn c]
  exact ⟨false, rfl, fun q => by cases q⟩
theorem few_some (r : Rl) : ∃ b, vokref_FewRule.f r = some (b, ()) ∧ (b = true → shortR r) := by
 rw [vokref_FewRule.f_eq]
 refine few_step fun h1 => few_step fun h2 => few_step fun h3 => few_step fun h4 => few_step fun h5 => few_step fun h6 => few_step fun h7 => few_step fun h8 => ⟨_, rfl, fun h9 => ?_⟩
 rw [decide_eq_true_iff] at h9
 unfold shortR short
 omega
theorem may_p {r : Rl} (hs : shortR r) (hM : rule_May.f r = some (true, ())) : mayP r.1 r.2.1 r.2.2.1 r.2.2.2.1 r.2.2.2.2.1 r.2.2.2.2.2.1 r.2.2.2.2.2.2.1 r.2.2.2.2.2.2.2.1 r.2.2.2.2.2.2.2.2.1 r.2.2.2.2.2.2.2.2.2.1 r.2.2.2.2.2.2.2.2.2.2.1 r.2.2.2.2.2.2.2.2.2.2.2.1 r.2.2.2.2.2.2.2.2.2.2.2.2.1 r.2.2.2.2.2.2.2.2.2.2.2.2.2.1 r.2.2.2.2.2.2.2.2.2.2.2.2.2.2.1 := by
 have g := may_gate r.1 r.2.1 r.2.2.1 r.2.2.2.1 r.2.2.2.2.1 r.2.2.2.2.2.1 r.2.2.2.2.2.2.1 r.2.2.2.2.2.2.2.1 r.2.2.2.2.2.2.2.2.1 r.2.2.2.2.2.2.2.2.2.1 r.2.2.2.2.2.2.2.2.2.2.1 r.2.2.2.2.2.2.2.2.2.2.2.1 r.2.2.2.2.2.2.2.2.2.2.2.2.1 r.2.2.2.2.2.2.2.2.2.2.2.2.2.1 r.2.2.2.2.2.2.2.2.2.2.2.2.2.2.1 hs
 refine Classical.byContradiction fun q => ?_
 have h1 : rule_May.f r = some (false, ()) := g.2 q
 rw [hM] at h1
 cases h1
abbrev inT (t : Int) : Prop := -62135596800 ≤ t ∧ t ≤ 253402300799
theorem inT_day {t : Int} (h : inT t) : -719162 ≤ t / 86400 ∧ t / 86400 ≤ 2932896 := by
 unfold inT at h
 omega
theorem make_ok (r : Rl) (s : Int) (hM : rule_May.f r = some (true, ())) (ht : inT s) (y m d : Int) (e : civil_Date.f (s / 86400) = some (y, m, d, 0, ())) :
  days_Make.f r s = some ((r, s, (s / 86400, y, m, d, wk (s / 86400), ()), s % 86400, ()), true, ()) := by
 have hS : stamp_May.f s = some (true, ()) := by rw [(may_mo s).1, dp ht]
 have hD := (mday_spec s (by unfold inT at ht; omega) (by unfold inT at ht; omega)).1
 rw [days_Make.f_eq, hM]
 simp (disch := omega) only [ss, cond_true, cond_false, Option.bind_some, hS, days_Make.l1_eq, hD, of_spec _ _ _ _ e]
theorem make_no (r : Rl) (s : Int) (b : Bool) (hM : rule_May.f r = some (b, ())) (h : ¬ (b = true ∧ inT s)) : days_Make.f r s = some (((0, 0, 0, 0, 0, false, [], [], [], [], [], [], [], [], [], ()), 0, (0, 0, 0, 0, 0, ()), 0, ()), false, ()) := by
 rw [days_Make.f_eq, hM]
 cases b with
 | false => simp (disch := omega) only [ss, cond_true, cond_false, Option.bind_some, days_Make.l1_eq]
 | true =>
  have hS : stamp_May.f s = some (false, ()) := by rw [(may_mo s).1, dn (show ¬ inT s from fun q => h ⟨rfl, q⟩)]
  simp (disch := omega) only [ss, cond_true, cond_false, Option.bind_some, hS, days_Make.l1_eq]
section
variable (f iv ct un wkst : Int) (en : Bool) (mo we yd md : List Int) (dy : List Dy) (ho mi se po : List Int)
def fitP (m0 d0 w0 n y m d : Int) : Prop := (mo = [] ∨ m ∈ mo) ∧ hasP yd (n - fst_ y + 1) (cum y 13) ∧ hasP md d (mlen y m) ∧ wdP f mo dy n y m d ∧ stP f mo we yd md dy m0 d0 w0 n m d ∧ wkP wkst we n
theorem plan_fits (s sec n0 y0 m0 d0 w0 n y m d : Int) (hs : short mo we yd md dy ho mi se po) (hw : 0 ≤ wkst ∧ wkst ≤ 6) (h : isDate n y m d) (e : civil_Date.f n = some (y, m, d, 0, ())) :
  Tells (days_Plan_Fits.f ((f, iv, ct, un, wkst, en, mo, we, yd, md, dy, ho, mi, se, po, ()), s, (n0, y0, m0, d0, w0, ()), sec, ()) n) (fitP f wkst mo we yd md dy m0 d0 w0 n y m d) := by
 obtain ⟨k1, k2, k3, k4, k5, k6, k7, k8, k9⟩ := hs
 obtain ⟨q1, q2, q3, q4, q5, q6⟩ := date_bd h
 obtain ⟨v1, v2, v3, v4⟩ := valid_iff.1 h.1
 have h13 := cum13 y
 have hs13 := fst_step y v1
 have hml := mlen_bd y m
 have t1 := dhas_spec yd (n - fst_ y + 1) (cum y 13) (by omega) (by omega) (by omega)
 have t2 := dhas_spec md d (mlen y m) (by omega) (by omega) (by omega)
 have t3 := wday_fits f iv ct un wkst en mo we yd md dy ho mi se po n y m d ⟨k1, k5⟩ h e
 have t4 := start_fits f iv ct un wkst en mo we yd md dy ho mi se po s sec n0 y0 m0 d0 w0 n y m d ⟨k1, k2, k3, k4, k5⟩
 have t5 := week_fits f iv ct un wkst en mo we yd md dy ho mi se po n y m d k2 h hw
 have tl := tells_last t5
 have ta := tells_and t4 tl
 have tb := tells_and t3 ta
 have hL : Tells (days_Plan_Fits.l2 n ((f, iv, ct, un, wkst, en, mo, we, yd, md, dy, ho, mi, se, po, ()), s, (n0, y0, m0, d0, w0, ()), sec, ()) (n, y, m, d, wk n, ())) (hasP yd (n - fst_ y + 1) (cum y 13) ∧ hasP md d (mlen y m) ∧ wdP f mo dy n y m d ∧ stP f mo we yd md dy m0 d0 w0 n m d ∧ wkP wkst we n) := by
  rw [days_Plan_Fits.l2_eq, yearday_spec n y m d h e]
  simp only [Option.bind_some]
  rw [ylen_spec y (by omega)]
  simp only [Option.bind_some]
  refine tells_and t1 ?_
  rw [length_spec y m (by omega)]
  simp only [Option.bind_some]
  exact tells_and t2 tb
 unfold fitP
 rw [days_Plan_Fits.f_eq, of_spec n y m d e]
 simp only [Option.bind_some, Bool.not_true, cond_false]
 by_cases c : mo = []
 ·subst c
  have hnil : (([] : List Int).length : Int) = 0 := rfl
  simp (disch := omega) only [ss, cond_true, cond_false, Option.bind_some, hnil, days_Plan_Fits.l1_eq]
  exact hL.iff ⟨fun q => ⟨.inl trivial, q⟩, fun q => q.2⟩
 ·have hmp : (mo.length : Int) > 0 := ne_len.1 c
  by_cases cm : m ∈ mo
  ·simp (disch := omega) only [ss, cond_true, cond_false, Option.bind_some, contains_int mo m (by omega), dp cm, days_Plan_Fits.l1_eq]
   exact hL.iff ⟨fun q => ⟨.inr cm, q⟩, fun q => q.2⟩
  ·simp (disch := omega) only [ss, cond_true, cond_false, Option.bind_some, contains_int mo m (by omega), dn cm, days_Plan_Fits.l1_eq]
   exact ⟨false, rfl, by simp [c, cm]⟩
theorem plan_none (s sec n0 y0 m0 d0 w0 n : Int) (h : ¬ (-719162 ≤ n ∧ n ≤ 2932896)) : days_Plan_Fits.f ((f, iv, ct, un, wkst, en, mo, we, yd, md, dy, ho, mi, se, po, ()), s, (n0, y0, m0, d0, w0, ()), sec, ()) n = some (false, ()) := by
 rw [days_Plan_Fits.f_eq, of_none n h]
 simp (disch := omega) only [ss, cond_true, cond_false, Option.bind_some, days_Plan_Fits.l1_eq]
end
end Go.GV.YtdnpbkbklnkjoaaGreatDoor
namespace Go.GV.YtdnpbkbklnkjoaaGreatDoor
open Go.Proofs
end Go.GV.YtdnpbkbklnkjoaaGreatDoor
namespace Go.GV.YtdnpbkbklnkjoaaGreatDoor
open Go.Proofs
theorem copy_ints (l : List Int) (h : l.length ≤ 1000000) : vokref_CopyInts.f l = some (l, ()) := by
 have hlim : limit = 17179869184 := rfl
 rw [vokref_CopyInts.f_eq]
 simp (disch := omega) only [ss, cond_true, cond_false, Option.bind_some, List.length_nil, hlim, List.nil_append]
theorem copy_rule (r : Rl) (h : shortR r) : vokref_CopyRule.f r = some (r, ()) := by
 have hlim : limit = 17179869184 := rfl
 unfold shortR short at h
 obtain ⟨h1, h2, h3, h4, h5, h6, h7, h8, h9⟩ := h
 rw [vokref_CopyRule.f_eq, copy_ints _ (by omega), copy_ints _ (by omega), copy_ints _ (by omega), copy_ints _ (by omega), copy_ints _ (by omega), copy_ints _ (by omega), copy_ints _ (by omega), copy_ints _ (by omega)]
 simp (disch := omega) only [ss, cond_true, cond_false, Option.bind_some, List.length_nil, hlim, List.nil_append]
end Go.GV.YtdnpbkbklnkjoaaGreatDoor
