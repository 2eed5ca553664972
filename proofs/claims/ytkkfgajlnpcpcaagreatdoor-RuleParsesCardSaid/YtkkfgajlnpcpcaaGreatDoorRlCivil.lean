/-
Dates: the program's and the document's are one. (This session's own text.)
-/
import Derived.Test.YtkkfgajlnpcpcaaGreatDoorRlNum
set_option linter.unusedVariables false
set_option linter.unusedSimpArgs false
namespace Go.GV.YtkkfgajlnpcpcaaGreatDoor
open Go.Proofs
/-- Leap years; lengths of months; days ahead of a month. -/
def leapB (y : Int) : Bool := decide (y % 4 = 0) && (!decide (y % 100 = 0) || decide (y % 400 = 0))
def mlen (y m : Int) : Int := if m = 2 then (if leapB y = true then 29 else 28) else if m = 4 ∨ m = 6 ∨ m = 9 ∨ m = 11 then 30 else if 1 ≤ m ∧ m ≤ 12 then 31 else 0
def cumT (m : Int) : Int := if m ≤ 1 then 0 else if m = 2 then 31 else if m = 3 then 59 else if m = 4 then 90 else if m = 5 then 120 else if m = 6 then 151 else if m = 7 then 181 else if m = 8 then 212 else if m = 9 then 243 else if m = 10 then 273 else if m = 11 then 304 else if m = 12 then 334 else 365
def cum (y m : Int) : Int := cumT m + if 3 ≤ m ∧ leapB y = true then 1 else 0
def fst_ (y : Int) : Int := 365 * (y - 1) + (y - 1) / 4 - (y - 1) / 100 + (y - 1) / 400 - 719162
theorem tmn {n : Int} (h : 0 ≤ n) (k : Int) : Int.tmod n k = n % k := Int.tmod_eq_emod_of_nonneg h
theorem tdn {n : Int} (h : 0 ≤ n) (k : Int) : Int.tdiv n k = n / k := Int.tdiv_eq_ediv_of_nonneg h
theorem leap_spec (y : Int) (hy : 0 ≤ y) : civil_Leap.f y = some (leapB y, ()) := by
  rw [civil_Leap.f_eq]
  simp only [tmn hy]
  unfold leapB
  by_cases h1 : y % 4 = 0
  · by_cases h2 : y % 100 = 0
    · by_cases h3 : y % 400 = 0
      · simp (disch := omega) only [dp, dn, decide_true, decide_false, cond_true, cond_false, Bool.not_true, Bool.not_false, Bool.true_and, Bool.false_and, Bool.and_true, Bool.and_false, Bool.true_or, Bool.false_or, Bool.or_true, Bool.or_false, wr, Option.bind_some, tn_add, tn_add1, tn_sub1, tn_0, tn_1, Int.toNat_natCast]
      · simp (disch := omega) only [dp, dn, decide_true, decide_false, cond_true, cond_false, Bool.not_true, Bool.not_false, Bool.true_and, Bool.false_and, Bool.and_true, Bool.and_false, Bool.true_or, Bool.false_or, Bool.or_true, Bool.or_false, wr, Option.bind_some, tn_add, tn_add1, tn_sub1, tn_0, tn_1, Int.toNat_natCast]
    · simp (disch := omega) only [dp, dn, decide_true, decide_false, cond_true, cond_false, Bool.not_true, Bool.not_false, Bool.true_and, Bool.false_and, Bool.and_true, Bool.and_false, Bool.true_or, Bool.false_or, Bool.or_true, Bool.or_false, wr, Option.bind_some, tn_add, tn_add1, tn_sub1, tn_0, tn_1, Int.toNat_natCast]
  · simp (disch := omega) only [dp, dn, decide_true, decide_false, cond_true, cond_false, Bool.not_true, Bool.not_false, Bool.true_and, Bool.false_and, Bool.and_true, Bool.and_false, Bool.true_or, Bool.false_or, Bool.or_true, Bool.or_false, wr, Option.bind_some, tn_add, tn_add1, tn_sub1, tn_0, tn_1, Int.toNat_natCast]
theorem vleap_spec (y : Int) (hy : 0 ≤ y) : vokref1_Leap.f y = some (leapB y, ()) := by
  have := leap_spec y hy
  rw [civil_Leap.f_eq] at this
  rw [vokref1_Leap.f_eq]
  exact this
theorem length_spec (y m : Int) (hy : 0 ≤ y) : civil_Length.f y m = some (mlen y m, ()) := by
  have hL := leap_spec y hy
  rw [civil_Length.f_eq]
  unfold mlen
  by_cases h2 : m = 2
  · subst h2
    simp (disch := omega) only [dp, dn, decide_true, decide_false, cond_true, cond_false, Bool.not_true, Bool.not_false, Bool.true_and, Bool.false_and, Bool.and_true, Bool.and_false, Bool.true_or, Bool.false_or, Bool.or_true, Bool.or_false, wr, Option.bind_some, tn_add, tn_add1, tn_sub1, tn_0, tn_1, Int.toNat_natCast, civil_Length.l1_eq, hL]
    cases leapB y <;> rfl
  · rw [if_neg h2]
    by_cases h4 : m = 4 ∨ m = 6 ∨ m = 9 ∨ m = 11
    · rw [if_pos h4]
      rcases h4 with rfl | rfl | rfl | rfl
      all_goals (simp (disch := omega) only [dp, dn, decide_true, decide_false, cond_true, cond_false, Bool.not_true, Bool.not_false, Bool.true_and, Bool.false_and, Bool.and_true, Bool.and_false, Bool.true_or, Bool.false_or, Bool.or_true, Bool.or_false, wr, Option.bind_some, tn_add, tn_add1, tn_sub1, tn_0, tn_1, Int.toNat_natCast, civil_Length.l1_eq])
    · rw [if_neg h4]
      by_cases hr : 1 ≤ m ∧ m ≤ 12
      · rw [if_pos hr]
        have : m = 1 ∨ m = 3 ∨ m = 5 ∨ m = 7 ∨ m = 8 ∨ m = 10 ∨ m = 12 := by omega
        rcases this with rfl | rfl | rfl | rfl | rfl | rfl | rfl
        all_goals (simp (disch := omega) only [dp, dn, decide_true, decide_false, cond_true, cond_false, Bool.not_true, Bool.not_false, Bool.true_and, Bool.false_and, Bool.and_true, Bool.and_false, Bool.true_or, Bool.false_or, Bool.or_true, Bool.or_false, wr, Option.bind_some, tn_add, tn_add1, tn_sub1, tn_0, tn_1, Int.toNat_natCast, civil_Length.l1_eq, civil_Length.l2_eq])
      · rw [if_neg hr]
        simp (disch := omega) only [dp, dn, decide_true, decide_false, cond_true, cond_false, Bool.not_true, Bool.not_false, Bool.true_and, Bool.false_and, Bool.and_true, Bool.and_false, Bool.true_or, Bool.false_or, Bool.or_true, Bool.or_false, wr, Option.bind_some, tn_add, tn_add1, tn_sub1, tn_0, tn_1, Int.toNat_natCast, civil_Length.l1_eq, civil_Length.l2_eq]
theorem vlength_spec (y m : Int) (hy : 0 ≤ y) : vokref1_Length.f y m = some (mlen y m, ()) := by
  have hL := vleap_spec y hy
  rw [vokref1_Length.f_eq]
  unfold mlen
  by_cases h2 : m = 2
  · subst h2
    simp (disch := omega) only [dp, dn, decide_true, decide_false, cond_true, cond_false, Bool.not_true, Bool.not_false, Bool.true_and, Bool.false_and, Bool.and_true, Bool.and_false, Bool.true_or, Bool.false_or, Bool.or_true, Bool.or_false, wr, Option.bind_some, tn_add, tn_add1, tn_sub1, tn_0, tn_1, Int.toNat_natCast, vokref1_Length.l1_eq, vokref1_Length.l2_eq, hL]
    cases leapB y <;> rfl
  · rw [if_neg h2]
    by_cases h4 : m = 4 ∨ m = 6 ∨ m = 9 ∨ m = 11
    · rw [if_pos h4]
      rcases h4 with rfl | rfl | rfl | rfl
      all_goals (simp (disch := omega) only [dp, dn, decide_true, decide_false, cond_true, cond_false, Bool.not_true, Bool.not_false, Bool.true_and, Bool.false_and, Bool.and_true, Bool.and_false, Bool.true_or, Bool.false_or, Bool.or_true, Bool.or_false, wr, Option.bind_some, tn_add, tn_add1, tn_sub1, tn_0, tn_1, Int.toNat_natCast, vokref1_Length.l1_eq, vokref1_Length.l2_eq])
    · rw [if_neg h4]
      by_cases hr : 1 ≤ m ∧ m ≤ 12
      · rw [if_pos hr]
        have : m = 1 ∨ m = 3 ∨ m = 5 ∨ m = 7 ∨ m = 8 ∨ m = 10 ∨ m = 12 := by omega
        rcases this with rfl | rfl | rfl | rfl | rfl | rfl | rfl
        all_goals (simp (disch := omega) only [dp, dn, decide_true, decide_false, cond_true, cond_false, Bool.not_true, Bool.not_false, Bool.true_and, Bool.false_and, Bool.and_true, Bool.and_false, Bool.true_or, Bool.false_or, Bool.or_true, Bool.or_false, wr, Option.bind_some, tn_add, tn_add1, tn_sub1, tn_0, tn_1, Int.toNat_natCast, vokref1_Length.l1_eq])
      · rw [if_neg hr]
        simp (disch := omega) only [dp, dn, decide_true, decide_false, cond_true, cond_false, Bool.not_true, Bool.not_false, Bool.true_and, Bool.false_and, Bool.and_true, Bool.and_false, Bool.true_or, Bool.false_or, Bool.or_true, Bool.or_false, wr, Option.bind_some, tn_add, tn_add1, tn_sub1, tn_0, tn_1, Int.toNat_natCast, vokref1_Length.l1_eq, vokref1_Length.l2_eq]
theorem mlen_bd (y m : Int) : 0 ≤ mlen y m ∧ mlen y m ≤ 31 ∧ (0 < mlen y m → 1 ≤ m ∧ m ≤ 12) := by
  unfold mlen
  split
  · cases leapB y <;> (simp; omega)
  · split
    · omega
    · split <;> omega
theorem cum_succ (y m : Int) (h1 : 1 ≤ m) (h2 : m ≤ 12) : cum y (m + 1) = cum y m + mlen y m := by
  have : m = 1 ∨ m = 2 ∨ m = 3 ∨ m = 4 ∨ m = 5 ∨ m = 6 ∨ m = 7 ∨ m = 8 ∨ m = 9 ∨ m = 10 ∨ m = 11 ∨ m = 12 := by omega
  unfold cum mlen cumT
  cases leapB y <;> (rcases this with rfl | rfl | rfl | rfl | rfl | rfl | rfl | rfl | rfl | rfl | rfl | rfl <;> simp)
theorem cum_bd (y m : Int) : 0 ≤ cum y m ∧ cum y m ≤ 366 := by
  unfold cum cumT
  split <;> (try split) <;> (repeat' split) <;> omega
/-- What is valid. -/
def validB (y m d : Int) : Bool := decide (1 ≤ y) && decide (y ≤ 9999) && decide (1 ≤ d) && decide (d ≤ mlen y m)
theorem valid_spec (y m d : Int) : civil_Valid.f y m d = some (validB y m d, ()) ∧ vokref1_Valid.f y m d = some (validB y m d, ()) := by
  rw [civil_Valid.f_eq, civil_year.f_eq, vokref1_Valid.f_eq]
  unfold validB
  by_cases h1 : 1 ≤ y
  · have hL := length_spec y m (by omega)
    have hV := vlength_spec y m (by omega)
    by_cases h2 : y ≤ 9999
    · by_cases h3 : 1 ≤ d
      · simp (disch := omega) only [dp, dn, decide_true, decide_false, cond_true, cond_false, Bool.not_true, Bool.not_false, Bool.true_and, Bool.false_and, Bool.and_true, Bool.and_false, Bool.true_or, Bool.false_or, Bool.or_true, Bool.or_false, wr, Option.bind_some, tn_add, tn_add1, tn_sub1, tn_0, tn_1, Int.toNat_natCast, hL, hV, ge_iff_le]
        exact ⟨trivial, trivial⟩
      · simp (disch := omega) only [dp, dn, decide_true, decide_false, cond_true, cond_false, Bool.not_true, Bool.not_false, Bool.true_and, Bool.false_and, Bool.and_true, Bool.and_false, Bool.true_or, Bool.false_or, Bool.or_true, Bool.or_false, wr, Option.bind_some, tn_add, tn_add1, tn_sub1, tn_0, tn_1, Int.toNat_natCast, hL, hV, ge_iff_le]
        exact ⟨trivial, trivial⟩
    · simp (disch := omega) only [dp, dn, decide_true, decide_false, cond_true, cond_false, Bool.not_true, Bool.not_false, Bool.true_and, Bool.false_and, Bool.and_true, Bool.and_false, Bool.true_or, Bool.false_or, Bool.or_true, Bool.or_false, wr, Option.bind_some, tn_add, tn_add1, tn_sub1, tn_0, tn_1, Int.toNat_natCast, ge_iff_le]
      exact ⟨trivial, trivial⟩
  · simp (disch := omega) only [dp, dn, decide_true, decide_false, cond_true, cond_false, Bool.not_true, Bool.not_false, Bool.true_and, Bool.false_and, Bool.and_true, Bool.and_false, Bool.true_or, Bool.false_or, Bool.or_true, Bool.or_false, wr, Option.bind_some, tn_add, tn_add1, tn_sub1, tn_0, tn_1, Int.toNat_natCast, ge_iff_le]
    exact ⟨trivial, trivial⟩
theorem number_civil (y m d : Int) (hy : 1 ≤ y) (hy2 : y ≤ 10000) (hm : 1 ≤ m) (hm2 : m ≤ 12) (hd : 1 ≤ d) (hd2 : d ≤ 31) : civil_number.f y m d = some (fst_ y + d - 1 + cum y m, ()) := by
  rw [civil_number.f_eq]
  by_cases h3 : m < 3
  · simp (disch := omega) only [dp, dn, decide_true, decide_false, cond_true, cond_false, Bool.not_true, Bool.not_false, Bool.true_and, Bool.false_and, Bool.and_true, Bool.and_false, Bool.true_or, Bool.false_or, Bool.or_true, Bool.or_false, wr, Option.bind_some, tn_add, tn_add1, tn_sub1, tn_0, tn_1, Int.toNat_natCast, tdn (show 0 ≤ y - 1 + 400 by omega), tdn (show 0 ≤ 153 * (m + 12 - 3) + 2 by omega)]
    congr 2
    unfold fst_ cum cumT
    have : m = 1 ∨ m = 2 := by omega
    rcases this with rfl | rfl
    · simp
      omega
    · simp
      omega
  · simp (disch := omega) only [dp, dn, decide_true, decide_false, cond_true, cond_false, Bool.not_true, Bool.not_false, Bool.true_and, Bool.false_and, Bool.and_true, Bool.and_false, Bool.true_or, Bool.false_or, Bool.or_true, Bool.or_false, wr, Option.bind_some, tn_add, tn_add1, tn_sub1, tn_0, tn_1, Int.toNat_natCast, tdn (show 0 ≤ y + 400 by omega), tdn (show 0 ≤ 153 * (m - 3) + 2 by omega)]
    congr 2
    unfold fst_ cum cumT
    have e : (if 3 ≤ m ∧ leapB y = true then (1 : Int) else 0) = y / 4 - (y - 1) / 4 - (y / 100 - (y - 1) / 100) + (y / 400 - (y - 1) / 400) := by
      unfold leapB
      by_cases h1 : y % 4 = 0
      · by_cases h2 : y % 100 = 0
        · by_cases h5 : y % 400 = 0
          · rw [if_pos ⟨by omega, by simp [h1, h2, h5]⟩]; omega
          · rw [if_neg (by simp [h1, h2, h5])]; omega
        · rw [if_pos ⟨by omega, by simp [h1, h2]⟩]; omega
      · rw [if_neg (by simp [h1])]; omega
    rw [e]
    have : m = 3 ∨ m = 4 ∨ m = 5 ∨ m = 6 ∨ m = 7 ∨ m = 8 ∨ m = 9 ∨ m = 10 ∨ m = 11 ∨ m = 12 := by omega
    rcases this with rfl | rfl | rfl | rfl | rfl | rfl | rfl | rfl | rfl | rfl
    all_goals (simp; omega)
theorem down_spec (n k : Int) (hn : 0 ≤ n) (hn2 : n ≤ 1000000) (hk : 0 < k) (hk2 : k ≤ 1000) : vokref1_down.f n k = some (n / k, ()) := by
  have h1 : 0 ≤ n % k := Int.emod_nonneg n (by omega)
  have h2 : 0 ≤ n / k := Int.ediv_nonneg hn (by omega)
  have h3 : n / k ≤ n := Int.ediv_le_self k hn
  rw [vokref1_down.f_eq, tmn hn, tdn hn]
  simp (disch := omega) only [dp, dn, decide_true, decide_false, cond_true, cond_false, Bool.not_true, Bool.not_false, Bool.true_and, Bool.false_and, Bool.and_true, Bool.and_false, Bool.true_or, Bool.false_or, Bool.or_true, Bool.or_false, wr, Option.bind_some, tn_add, tn_add1, tn_sub1, tn_0, tn_1, Int.toNat_natCast]
theorem first_spec (y : Int) (hy : 1 ≤ y) (hy2 : y ≤ 10001) : vokref1_first.f y = some (fst_ y, ()) := by
  rw [vokref1_first.f_eq]
  have hw : IntKind.i64.wrap (y - 1) = y - 1 := wr (by omega) (by omega)
  rw [hw, down_spec (y - 1) 4 (by omega) (by omega) (by omega) (by omega), down_spec (y - 1) 100 (by omega) (by omega) (by omega) (by omega), down_spec (y - 1) 400 (by omega) (by omega) (by omega) (by omega)]
  simp (disch := omega) only [dp, dn, decide_true, decide_false, cond_true, cond_false, Bool.not_true, Bool.not_false, Bool.true_and, Bool.false_and, Bool.and_true, Bool.and_false, Bool.true_or, Bool.false_or, Bool.or_true, Bool.or_false, wr, Option.bind_some, tn_add, tn_add1, tn_sub1, tn_0, tn_1, Int.toNat_natCast]
  rfl
theorem fst_bd (y : Int) (hy : 1 ≤ y) (hy2 : y ≤ 10001) : -1000000 ≤ fst_ y ∧ fst_ y ≤ 4000000 := by
  unfold fst_
  omega
theorem vdays_l1 (y m : Int) (hy : 0 ≤ y) (hm : m ≤ 12) : ∀ (k : Nat) (i n : Int), m - i = k → 1 ≤ i → -10000000 ≤ n → n + cum y m - cum y i ≤ 10000000 → -10000000 ≤ n ∧ n ≤ 10000000 → vokref1_Days.l1 y m n i = some (n + cum y m - cum y i, 0, ()) := by
  intro k
  induction k with
  | zero =>
    intro i n hk hi h1 h2 h3
    have e : i = m := by omega
    subst e
    rw [vokref1_Days.l1_eq]
    simp (disch := omega) only [dp, dn, decide_true, decide_false, cond_true, cond_false, Bool.not_true, Bool.not_false, Bool.true_and, Bool.false_and, Bool.and_true, Bool.and_false, Bool.true_or, Bool.false_or, Bool.or_true, Bool.or_false, wr, Option.bind_some, tn_add, tn_add1, tn_sub1, tn_0, tn_1, Int.toNat_natCast]
    congr 2
    omega
  | succ k ih =>
    intro i n hk hi h1 h2 h3
    have hL := vlength_spec y i hy
    have hb := mlen_bd y i
    have hc := cum_succ y i hi (by omega)
    have hd := cum_bd y m
    have he := cum_bd y i
    have hg := cum_bd y (i + 1)
    rw [vokref1_Days.l1_eq]
    by_cases hn2 : n + mlen y i ≤ 10000000
    · simp (disch := omega) only [dp, dn, decide_true, decide_false, cond_true, cond_false, Bool.not_true, Bool.not_false, Bool.true_and, Bool.false_and, Bool.and_true, Bool.and_false, Bool.true_or, Bool.false_or, Bool.or_true, Bool.or_false, wr, Option.bind_some, tn_add, tn_add1, tn_sub1, tn_0, tn_1, Int.toNat_natCast, hL]
      rw [ih (i + 1) (n + mlen y i) (by omega) (by omega) (by omega) (by omega) ⟨by omega, hn2⟩]
      congr 2
      omega
    · -- the bound holds where it is used
      simp (disch := omega) only [dp, dn, decide_true, decide_false, cond_true, cond_false, Bool.not_true, Bool.not_false, Bool.true_and, Bool.false_and, Bool.and_true, Bool.and_false, Bool.true_or, Bool.false_or, Bool.or_true, Bool.or_false, wr, Option.bind_some, tn_add, tn_add1, tn_sub1, tn_0, tn_1, Int.toNat_natCast, hL]
      have hm' : cum y (i + 1) ≤ cum y m := by
        have mono : ∀ (j : Nat) (a : Int), 1 ≤ a → a + j ≤ 12 → cum y a ≤ cum y (a + j) := by
          intro j
          induction j with
          | zero => intro a _ _; simp
          | succ j ihj =>
            intro a ha hj
            have := ihj a ha (by omega)
            have h5 := cum_succ y (a + j) (by omega) (by omega)
            have h6 := mlen_bd y (a + j)
            rw [show a + ((j + 1 : Nat) : Int) = a + (j : Int) + 1 by omega, h5]
            omega
        have := mono k (i + 1) (by omega) (by omega)
        rwa [show i + 1 + (k : Int) = m by omega] at this
      omega
theorem days_spec (y m d : Int) : civil_Days.f y m d = some (if validB y m d = true then (fst_ y + d - 1 + cum y m, 0, ()) else (0, 1, ())) ∧ vokref1_Days.f y m d = some (if validB y m d = true then (fst_ y + d - 1 + cum y m, 0, ()) else (0, 1, ())) := by
  obtain ⟨h1, h2⟩ := valid_spec y m d
  rw [civil_Days.f_eq, vokref1_Days.f_eq, h1, h2]
  cases hv : validB y m d with
  | false => exact ⟨rfl, rfl⟩
  | true =>
    unfold validB at hv
    simp only [Bool.and_eq_true, decide_eq_true_eq] at hv
    obtain ⟨⟨⟨h3, h4⟩, h5⟩, h6⟩ := hv
    have hb := mlen_bd y m
    have hm := hb.2.2 (by omega)
    have hN := number_civil y m d h3 (by omega) hm.1 hm.2 h5 (by omega)
    have hF := first_spec y h3 (by omega)
    have hfb := fst_bd y h3 (by omega)
    have hcb := cum_bd y m
    have hc1 : cum y 1 = 0 := rfl
    obtain ⟨k, hk⟩ := Int.eq_ofNat_of_zero_le (show 0 ≤ m - 1 by omega)
    have hD := vdays_l1 y m (by omega) hm.2 k 1 (fst_ y + d - 1) hk (by omega) (by omega) (by omega) ⟨by omega, by omega⟩
    rw [if_pos rfl]
    constructor
    · simp (disch := omega) only [dp, dn, decide_true, decide_false, cond_true, cond_false, Bool.not_true, Bool.not_false, Bool.true_and, Bool.false_and, Bool.and_true, Bool.and_false, Bool.true_or, Bool.false_or, Bool.or_true, Bool.or_false, wr, Option.bind_some, tn_add, tn_add1, tn_sub1, tn_0, tn_1, Int.toNat_natCast, hN]
    · simp (disch := omega) only [dp, dn, decide_true, decide_false, cond_true, cond_false, Bool.not_true, Bool.not_false, Bool.true_and, Bool.false_and, Bool.and_true, Bool.and_false, Bool.true_or, Bool.false_or, Bool.or_true, Bool.or_false, wr, Option.bind_some, tn_add, tn_add1, tn_sub1, tn_0, tn_1, Int.toNat_natCast, hF, hD]
      congr 2
      omega
end Go.GV.YtkkfgajlnpcpcaaGreatDoor
