/-
What may be a rule: lists and days. (This session's own text.)
-/
import Derived.Test.YtkkfgajlnpcpcaaGreatDoorRlDays
set_option linter.unusedVariables false
set_option linter.unusedSimpArgs false
namespace Go.GV.YtkkfgajlnpcpcaaGreatDoor
open Go.Proofs
/-- Says so much. -/
def Tells (f : Option (Bool × Unit)) (p : Prop) : Prop := ∃ b, f = some (b, ()) ∧ (b = true ↔ p)
theorem Tells.iff {f : Option (Bool × Unit)} {p q : Prop} (h : Tells f p) (e : p ↔ q) : Tells f q := by
  obtain ⟨b, h1, h2⟩ := h
  exact ⟨b, h1, h2.trans e⟩
theorem Tells.eq {f g : Option (Bool × Unit)} {p : Prop} (h : Tells f p) (k : Tells g p) : f = g := by
  obtain ⟨b, h1, h2⟩ := h
  obtain ⟨c, k1, k2⟩ := k
  have : b = c := by
    cases b <;> cases c <;> simp at h2 k2 <;> first | rfl | exact absurd k2 h2 | exact absurd h2 k2
  rw [h1, k1, this]
/-! ### Lists of numbers -/
def okI (l : List Int) (lo hi : Int) (z : Bool) (j : Nat) : Prop := lo ≤ l.getD j 0 ∧ l.getD j 0 ≤ hi ∧ (l.getD j 0 = 0 → z = true)
def adjI (l : List Int) (j : Nat) : Prop := 0 < j → l.getD (j - 1) 0 < l.getD j 0
theorem within_l1 (l : List Int) (lo hi : Int) (z : Bool) (hl : l.length ≤ 1000000) : ∀ (k i : Nat), l.length - i = k → i ≤ l.length →
    Tells (rule_within.l1 l lo hi z l l.length i) ((∀ j, i ≤ j → j < l.length → okI l lo hi z j ∧ adjI l j) ∧ l.length ≤ 60) := by
  intro k
  induction k with
  | zero =>
    intro i hk hil
    rw [rule_within.l1_eq]
    simp (disch := omega) only [dp, dn, decide_true, decide_false, cond_true, cond_false, Bool.not_true, Bool.not_false, Bool.true_and, Bool.false_and, Bool.and_true, Bool.and_false, Bool.true_or, Bool.false_or, Bool.or_true, Bool.or_false, wr, Option.bind_some, tn_add, tn_add1, tn_sub1, tn_0, tn_1, Int.toNat_natCast]
    refine ⟨_, rfl, ?_⟩
    rw [decide_eq_true_eq]
    exact ⟨fun h => ⟨fun j h1 h2 => by omega, by omega⟩, fun h => by omega⟩
  | succ k ih =>
    intro i hk hil
    have hlt : i < l.length := by omega
    have step : okI l lo hi z i ∧ adjI l i → Tells (rule_within.l2 l lo hi z l l.length i false) ((∀ j, i ≤ j → j < l.length → okI l lo hi z j ∧ adjI l j) ∧ l.length ≤ 60) := fun h => by
      rw [rule_within.l2_eq]
      simp (disch := omega) only [dp, dn, decide_true, decide_false, cond_true, cond_false, Bool.not_true, Bool.not_false, Bool.true_and, Bool.false_and, Bool.and_true, Bool.and_false, Bool.true_or, Bool.false_or, Bool.or_true, Bool.or_false, wr, Option.bind_some, tn_add, tn_add1, tn_sub1, tn_0, tn_1, Int.toNat_natCast]
      refine (ih (i + 1) (by omega) (by omega)).iff ⟨fun q => ⟨fun j h1 h2 => ?_, q.2⟩, fun q => ⟨fun j h1 h2 => q.1 j (by omega) h2, q.2⟩⟩
      by_cases e : j = i
      · subst e; exact h
      · exact q.1 j (by omega) h2
    have stop : ¬ (okI l lo hi z i ∧ adjI l i) → Tells (rule_within.l2 l lo hi z l l.length i true) ((∀ j, i ≤ j → j < l.length → okI l lo hi z j ∧ adjI l j) ∧ l.length ≤ 60) := fun h => by
      rw [rule_within.l2_eq, cond_true]
      exact ⟨false, rfl, by simp; intro q; exact absurd (q i (Nat.le_refl _) hlt) h⟩
    have last : okI l lo hi z i → Tells (bif decide ((i : Int) > 0) then (bif decide (0 ≤ (i : Int) - 1) then (rule_within.l2 l lo hi z l l.length i (decide (l.getD i 0 ≤ l.getD (i - 1) 0))) else none) else (rule_within.l2 l lo hi z l l.length i false)) ((∀ j, i ≤ j → j < l.length → okI l lo hi z j ∧ adjI l j) ∧ l.length ≤ 60) := fun h => by
      by_cases h0 : i = 0
      · simp (disch := omega) only [dp, dn, decide_true, decide_false, cond_true, cond_false, Bool.not_true, Bool.not_false, Bool.true_and, Bool.false_and, Bool.and_true, Bool.and_false, Bool.true_or, Bool.false_or, Bool.or_true, Bool.or_false, wr, Option.bind_some, tn_add, tn_add1, tn_sub1, tn_0, tn_1, Int.toNat_natCast]
        exact step ⟨h, fun q => by omega⟩
      · simp (disch := omega) only [dp, dn, decide_true, decide_false, cond_true, cond_false, Bool.not_true, Bool.not_false, Bool.true_and, Bool.false_and, Bool.and_true, Bool.and_false, Bool.true_or, Bool.false_or, Bool.or_true, Bool.or_false, wr, Option.bind_some, tn_add, tn_add1, tn_sub1, tn_0, tn_1, Int.toNat_natCast]
        by_cases c : l.getD i 0 ≤ l.getD (i - 1) 0
        · rw [dp c]
          exact stop fun q => by have := q.2 (by omega); omega
        · rw [dn c]
          exact step ⟨h, fun _ => by omega⟩
    rw [rule_within.l1_eq]
    simp (disch := omega) only [dp, dn, decide_true, decide_false, cond_true, cond_false, Bool.not_true, Bool.not_false, Bool.true_and, Bool.false_and, Bool.and_true, Bool.and_false, Bool.true_or, Bool.false_or, Bool.or_true, Bool.or_false, wr, Option.bind_some, tn_add, tn_add1, tn_sub1, tn_0, tn_1, Int.toNat_natCast]
    by_cases c1 : l.getD i 0 < lo
    · rw [dp c1, cond_true]
      exact stop fun q => by have := q.1.1; omega
    · by_cases c2 : l.getD i 0 > hi
      · rw [dn c1, dp c2, cond_false, cond_true]
        exact stop fun q => by have := q.1.2.1; omega
      · rw [dn c1, dn c2, cond_false, cond_false]
        by_cases c3 : l.getD i 0 = 0
        · rw [dp c3, cond_true]
          cases z with
          | false =>
            exact stop fun q => by have := q.1.2.2 c3; cases this
          | true => exact last ⟨by omega, by omega, fun _ => rfl⟩
        · rw [dn c3, cond_false]
          exact last ⟨by omega, by omega, fun q => absurd q c3⟩
def wi (l : List Int) (lo hi : Int) (z : Bool) : Prop := (∀ j, j < l.length → okI l lo hi z j ∧ adjI l j) ∧ l.length ≤ 60
theorem within_spec (l : List Int) (lo hi : Int) (z : Bool) (hl : l.length ≤ 1000000) : Tells (rule_within.f l lo hi z) (wi l lo hi z) := by
  have := within_l1 l lo hi z hl _ 0 rfl (Nat.zero_le _)
  rw [Int.natCast_zero] at this
  rw [rule_within.f_eq]
  exact this.iff ⟨fun h => ⟨fun j h2 => h.1 j (Nat.zero_le _) h2, h.2⟩, fun h => ⟨fun j _ h2 => h.1 j h2, h.2⟩⟩
theorem vrises_l1 (l : List Int) (hl : l.length ≤ 1000000) : ∀ (k i : Nat), l.length - i = k → 0 < i → Tells (vokref_Rises.l1 l i) (∀ j, i ≤ j → j < l.length → adjI l j) := by
  intro k
  induction k with
  | zero =>
    intro i hk hil
    rw [vokref_Rises.l1_eq]
    by_cases hlt : i < l.length
    · omega
    · simp (disch := omega) only [dp, dn, decide_true, decide_false, cond_true, cond_false, Bool.not_true, Bool.not_false, Bool.true_and, Bool.false_and, Bool.and_true, Bool.and_false, Bool.true_or, Bool.false_or, Bool.or_true, Bool.or_false, wr, Option.bind_some, tn_add, tn_add1, tn_sub1, tn_0, tn_1, Int.toNat_natCast]
      exact ⟨true, rfl, by simp; intro j h1 h2; omega⟩
  | succ k ih =>
    intro i hk hil
    have hlt : i < l.length := by omega
    have w1 : IntKind.i64.wrap ((i : Int) - 1) = ((i - 1 : Nat) : Int) := wr_sub1 (by omega) (by omega)
    rw [vokref_Rises.l1_eq]
    simp (disch := omega) only [dp, dn, decide_true, decide_false, cond_true, cond_false, Bool.not_true, Bool.not_false, Bool.true_and, Bool.false_and, Bool.and_true, Bool.and_false, Bool.true_or, Bool.false_or, Bool.or_true, Bool.or_false, wr, Option.bind_some, tn_add, tn_add1, tn_sub1, tn_0, tn_1, Int.toNat_natCast, w1]
    by_cases c : l.getD i 0 ≤ l.getD (i - 1) 0
    · rw [dp c, cond_true]
      exact ⟨false, rfl, by simp; exact ⟨i, Nat.le_refl _, hlt, fun q => by have := q hil; omega⟩⟩
    · rw [dn c, cond_false]
      refine (ih (i + 1) (by omega) (by omega)).iff ⟨fun q j h1 h2 => ?_, fun q j h1 h2 => q j (by omega) h2⟩
      by_cases e : j = i
      · subst e; intro _; omega
      · exact q j (by omega) h2
theorem vrises_spec (l : List Int) (hl : l.length ≤ 1000000) : Tells (vokref_Rises.f l) (∀ j, j < l.length → adjI l j) := by
  have := vrises_l1 l hl _ 1 rfl (by omega)
  rw [vokref_Rises.f_eq]
  exact this.iff ⟨fun h j h2 h0 => h j (by omega) h2 h0, fun h j _ h2 => h j h2⟩
theorem vwithin_l1 (l : List Int) (lo hi : Int) (z : Bool) (hl : l.length ≤ 1000000) : ∀ (k i : Nat), l.length - i = k → i ≤ l.length →
    Tells (vokref4_within.l1 l lo hi z i) ((∀ j, i ≤ j → j < l.length → okI l lo hi z j) ∧ (∀ j, j < l.length → adjI l j) ∧ l.length ≤ 60) := by
  intro k
  induction k with
  | zero =>
    intro i hk hil
    rw [vokref4_within.l1_eq]
    simp (disch := omega) only [dp, dn, decide_true, decide_false, cond_true, cond_false, Bool.not_true, Bool.not_false, Bool.true_and, Bool.false_and, Bool.and_true, Bool.and_false, Bool.true_or, Bool.false_or, Bool.or_true, Bool.or_false, wr, Option.bind_some, tn_add, tn_add1, tn_sub1, tn_0, tn_1, Int.toNat_natCast]
    by_cases c : (l.length : Int) ≤ 60
    · obtain ⟨b, h1, h2⟩ := vrises_spec l hl
      simp (disch := omega) only [dp, dn, decide_true, decide_false, cond_true, cond_false, Bool.not_true, Bool.not_false, Bool.true_and, Bool.false_and, Bool.and_true, Bool.and_false, Bool.true_or, Bool.false_or, Bool.or_true, Bool.or_false, wr, Option.bind_some, tn_add, tn_add1, tn_sub1, tn_0, tn_1, Int.toNat_natCast, h1]
      exact ⟨b, rfl, h2.trans ⟨fun q => ⟨fun j h3 h4 => by omega, q, by omega⟩, fun q => q.2.1⟩⟩
    · simp (disch := omega) only [dp, dn, decide_true, decide_false, cond_true, cond_false, Bool.not_true, Bool.not_false, Bool.true_and, Bool.false_and, Bool.and_true, Bool.and_false, Bool.true_or, Bool.false_or, Bool.or_true, Bool.or_false, wr, Option.bind_some, tn_add, tn_add1, tn_sub1, tn_0, tn_1, Int.toNat_natCast]
      exact ⟨false, rfl, by simp; intro _ _; omega⟩
  | succ k ih =>
    intro i hk hil
    have hlt : i < l.length := by omega
    have step : okI l lo hi z i → Tells (vokref4_within.l2 l lo hi z i false) ((∀ j, i ≤ j → j < l.length → okI l lo hi z j) ∧ (∀ j, j < l.length → adjI l j) ∧ l.length ≤ 60) := fun h => by
      rw [vokref4_within.l2_eq]
      simp (disch := omega) only [dp, dn, decide_true, decide_false, cond_true, cond_false, Bool.not_true, Bool.not_false, Bool.true_and, Bool.false_and, Bool.and_true, Bool.and_false, Bool.true_or, Bool.false_or, Bool.or_true, Bool.or_false, wr, Option.bind_some, tn_add, tn_add1, tn_sub1, tn_0, tn_1, Int.toNat_natCast]
      refine (ih (i + 1) (by omega) (by omega)).iff ⟨fun q => ⟨fun j h1 h2 => ?_, q.2⟩, fun q => ⟨fun j h1 h2 => q.1 j (by omega) h2, q.2⟩⟩
      by_cases e : j = i
      · subst e; exact h
      · exact q.1 j (by omega) h2
    have stop : ¬ okI l lo hi z i → Tells (vokref4_within.l2 l lo hi z i true) ((∀ j, i ≤ j → j < l.length → okI l lo hi z j) ∧ (∀ j, j < l.length → adjI l j) ∧ l.length ≤ 60) := fun h => by
      rw [vokref4_within.l2_eq, cond_true]
      exact ⟨false, rfl, by simp; intro q; exact absurd (q i (Nat.le_refl _) hlt) h⟩
    rw [vokref4_within.l1_eq]
    simp (disch := omega) only [dp, dn, decide_true, decide_false, cond_true, cond_false, Bool.not_true, Bool.not_false, Bool.true_and, Bool.false_and, Bool.and_true, Bool.and_false, Bool.true_or, Bool.false_or, Bool.or_true, Bool.or_false, wr, Option.bind_some, tn_add, tn_add1, tn_sub1, tn_0, tn_1, Int.toNat_natCast]
    by_cases c1 : l.getD i 0 < lo
    · rw [dp c1, cond_true]
      exact stop fun q => by have := q.1; omega
    · by_cases c2 : l.getD i 0 > hi
      · rw [dn c1, dp c2, cond_false, cond_true]
        exact stop fun q => by have := q.2.1; omega
      · rw [dn c1, dn c2, cond_false, cond_false]
        by_cases c3 : l.getD i 0 = 0
        · rw [dp c3, cond_true]
          cases z with
          | false => exact stop fun q => by have := q.2.2 c3; cases this
          | true => exact step ⟨by omega, by omega, fun _ => rfl⟩
        · rw [dn c3, cond_false]
          exact step ⟨by omega, by omega, fun q => absurd q c3⟩
theorem vwithin_spec (l : List Int) (lo hi : Int) (z : Bool) (hl : l.length ≤ 1000000) : Tells (vokref4_within.f l lo hi z) (wi l lo hi z) := by
  have := vwithin_l1 l lo hi z hl _ 0 rfl (Nat.zero_le _)
  rw [Int.natCast_zero] at this
  rw [vokref4_within.f_eq]
  exact this.iff ⟨fun h => ⟨fun j h2 => ⟨h.1 j (Nat.zero_le _) h2, h.2.1 j h2⟩, h.2.2⟩, fun h => ⟨fun j _ h2 => (h.1 j h2).1, fun j h2 => (h.1 j h2).2, h.2⟩⟩
/-! ### Days -/
def gD (l : List Dy) (j : Nat) : Dy := l.getD j ((0, 0, ()) : Int × Int × Unit)
def okD (l : List Dy) (j : Nat) : Prop := -53 ≤ (gD l j).1 ∧ (gD l j).1 ≤ 53 ∧ 0 ≤ (gD l j).2.1 ∧ (gD l j).2.1 ≤ 6 ∧ (0 < j → dyLt (gD l (j - 1)) (gD l j))
def dwi (l : List Dy) : Prop := (∀ j, j < l.length → okD l j) ∧ l.length ≤ 60
theorem vdl_l1 (l : List Dy) (hl : l.length ≤ 1000000) : ∀ (k i : Nat), l.length - i = k → i ≤ l.length → Tells (vokref4_dayList.l1 l i) ((∀ j, i ≤ j → j < l.length → okD l j) ∧ l.length ≤ 60) := by
  intro k
  induction k with
  | zero =>
    intro i hk hil
    rw [vokref4_dayList.l1_eq]
    simp (disch := omega) only [dp, dn, decide_true, decide_false, cond_true, cond_false, Bool.not_true, Bool.not_false, Bool.true_and, Bool.false_and, Bool.and_true, Bool.and_false, Bool.true_or, Bool.false_or, Bool.or_true, Bool.or_false, wr, Option.bind_some, tn_add, tn_add1, tn_sub1, tn_0, tn_1, Int.toNat_natCast]
    refine ⟨_, rfl, ?_⟩
    rw [decide_eq_true_eq]
    exact ⟨fun h => ⟨fun j h1 h2 => by omega, by omega⟩, fun h => by omega⟩
  | succ k ih =>
    intro i hk hil
    have hlt : i < l.length := by omega
    have step : okD l i → Tells (vokref4_dayList.l2 l i false) ((∀ j, i ≤ j → j < l.length → okD l j) ∧ l.length ≤ 60) := fun h => by
      rw [vokref4_dayList.l2_eq]
      simp (disch := omega) only [dp, dn, decide_true, decide_false, cond_true, cond_false, Bool.not_true, Bool.not_false, Bool.true_and, Bool.false_and, Bool.and_true, Bool.and_false, Bool.true_or, Bool.false_or, Bool.or_true, Bool.or_false, wr, Option.bind_some, tn_add, tn_add1, tn_sub1, tn_0, tn_1, Int.toNat_natCast]
      refine (ih (i + 1) (by omega) (by omega)).iff ⟨fun q => ⟨fun j h1 h2 => ?_, q.2⟩, fun q => ⟨fun j h1 h2 => q.1 j (by omega) h2, q.2⟩⟩
      by_cases e : j = i
      · subst e; exact h
      · exact q.1 j (by omega) h2
    have stop : ¬ okD l i → Tells (vokref4_dayList.l2 l i true) ((∀ j, i ≤ j → j < l.length → okD l j) ∧ l.length ≤ 60) := fun h => by
      rw [vokref4_dayList.l2_eq, cond_true]
      exact ⟨false, rfl, by simp; intro q; exact absurd (q i (Nat.le_refl _) hlt) h⟩
    have hg : l.getD i ((0, 0, ()) : Int × Int × Unit) = gD l i := rfl
    have hg1 : l.getD (i - 1) ((0, 0, ()) : Int × Int × Unit) = gD l (i - 1) := rfl
    rw [vokref4_dayList.l1_eq]
    simp (disch := omega) only [dp, dn, decide_true, decide_false, cond_true, cond_false, Bool.not_true, Bool.not_false, Bool.true_and, Bool.false_and, Bool.and_true, Bool.and_false, Bool.true_or, Bool.false_or, Bool.or_true, Bool.or_false, wr, Option.bind_some, tn_add, tn_add1, tn_sub1, tn_0, tn_1, Int.toNat_natCast, hg]
    by_cases c1 : (gD l i).1 < -53
    · rw [dp c1, cond_true]
      exact stop fun q => by have := q.1; omega
    · by_cases c2 : (gD l i).1 > 53
      · rw [dn c1, dp c2, cond_false, cond_true]
        exact stop fun q => by have := q.2.1; omega
      · by_cases c3 : (gD l i).2.1 < 0
        · rw [dn c1, dn c2, dp c3, cond_false, cond_false, cond_true]
          exact stop fun q => by have := q.2.2.1; omega
        · by_cases c4 : (gD l i).2.1 > 6
          · rw [dn c1, dn c2, dn c3, dp c4, cond_false, cond_false, cond_false, cond_true]
            exact stop fun q => by have := q.2.2.2.1; omega
          · rw [dn c1, dn c2, dn c3, dn c4, cond_false, cond_false, cond_false, cond_false]
            by_cases h0 : i = 0
            · simp (disch := omega) only [dp, dn, decide_true, decide_false, cond_true, cond_false, Bool.not_true, Bool.not_false, Bool.true_and, Bool.false_and, Bool.and_true, Bool.and_false, Bool.true_or, Bool.false_or, Bool.or_true, Bool.or_false, wr, Option.bind_some, tn_add, tn_add1, tn_sub1, tn_0, tn_1, Int.toNat_natCast]
              exact step ⟨by omega, by omega, by omega, by omega, fun q => by omega⟩
            · have w1 : IntKind.i64.wrap ((i : Int) - 1) = ((i - 1 : Nat) : Int) := wr_sub1 (by omega) (by omega)
              simp (disch := omega) only [dp, dn, decide_true, decide_false, cond_true, cond_false, Bool.not_true, Bool.not_false, Bool.true_and, Bool.false_and, Bool.and_true, Bool.and_false, Bool.true_or, Bool.false_or, Bool.or_true, Bool.or_false, wr, Option.bind_some, tn_add, tn_add1, tn_sub1, tn_0, tn_1, Int.toNat_natCast, w1, hg1]
              by_cases c5 : (gD l i).1 < (gD l (i - 1)).1
              · rw [dp c5, cond_true]
                exact stop fun q => by have := q.2.2.2.2 (by omega); unfold dyLt at this; omega
              · by_cases c6 : (gD l i).1 = (gD l (i - 1)).1
                · rw [dn c5, dp c6, cond_false, cond_true]
                  by_cases c7 : (gD l i).2.1 ≤ (gD l (i - 1)).2.1
                  · rw [dp c7]
                    exact stop fun q => by have := q.2.2.2.2 (by omega); unfold dyLt at this; omega
                  · rw [dn c7]
                    exact step ⟨by omega, by omega, by omega, by omega, fun _ => by unfold dyLt; omega⟩
                · rw [dn c5, dn c6, cond_false, cond_false]
                  exact step ⟨by omega, by omega, by omega, by omega, fun _ => by unfold dyLt; omega⟩
theorem vdl_spec (l : List Dy) (hl : l.length ≤ 1000000) : Tells (vokref4_dayList.f l) (dwi l) := by
  have := vdl_l1 l hl _ 0 rfl (Nat.zero_le _)
  rw [Int.natCast_zero] at this
  rw [vokref4_dayList.f_eq]
  exact this.iff ⟨fun h => ⟨fun j h2 => h.1 j (Nat.zero_le _) h2, h.2⟩, fun h => ⟨fun j _ h2 => h.1 j h2, h.2⟩⟩
theorem vnumb_spec (l : List Dy) (hl : l.length ≤ 1000000) : Tells (vokref4_numbered.f l) (∃ j, j < l.length ∧ (gD l j).1 ≠ 0) := by
  have key : ∀ (k i : Nat), l.length - i = k → i ≤ l.length → Tells (vokref4_numbered.l1 l i) (∃ j, i ≤ j ∧ j < l.length ∧ (gD l j).1 ≠ 0) := by
    intro k
    induction k with
    | zero =>
      intro i hk hil
      rw [vokref4_numbered.l1_eq]
      simp (disch := omega) only [dp, dn, decide_true, decide_false, cond_true, cond_false, Bool.not_true, Bool.not_false, Bool.true_and, Bool.false_and, Bool.and_true, Bool.and_false, Bool.true_or, Bool.false_or, Bool.or_true, Bool.or_false, wr, Option.bind_some, tn_add, tn_add1, tn_sub1, tn_0, tn_1, Int.toNat_natCast]
      exact ⟨false, rfl, by simp; intro j h1 h2; omega⟩
    | succ k ih =>
      intro i hk hil
      have hlt : i < l.length := by omega
      have hg : l.getD i ((0, 0, ()) : Int × Int × Unit) = gD l i := rfl
      rw [vokref4_numbered.l1_eq]
      simp (disch := omega) only [dp, dn, decide_true, decide_false, cond_true, cond_false, Bool.not_true, Bool.not_false, Bool.true_and, Bool.false_and, Bool.and_true, Bool.and_false, Bool.true_or, Bool.false_or, Bool.or_true, Bool.or_false, wr, Option.bind_some, tn_add, tn_add1, tn_sub1, tn_0, tn_1, Int.toNat_natCast, hg]
      by_cases c : (gD l i).1 = 0
      · rw [dp c]
        simp (disch := omega) only [dp, dn, decide_true, decide_false, cond_true, cond_false, Bool.not_true, Bool.not_false, Bool.true_and, Bool.false_and, Bool.and_true, Bool.and_false, Bool.true_or, Bool.false_or, Bool.or_true, Bool.or_false, wr, Option.bind_some, tn_add, tn_add1, tn_sub1, tn_0, tn_1, Int.toNat_natCast]
        refine (ih (i + 1) (by omega) (by omega)).iff ⟨fun ⟨j, h1, h2, h3⟩ => ⟨j, by omega, h2, h3⟩, fun ⟨j, h1, h2, h3⟩ => ⟨j, ?_, h2, h3⟩⟩
        by_cases e : j = i
        · subst e; exact absurd c h3
        · omega
      · rw [dn c]
        simp (disch := omega) only [dp, dn, decide_true, decide_false, cond_true, cond_false, Bool.not_true, Bool.not_false, Bool.true_and, Bool.false_and, Bool.and_true, Bool.and_false, Bool.true_or, Bool.false_or, Bool.or_true, Bool.or_false, wr, Option.bind_some, tn_add, tn_add1, tn_sub1, tn_0, tn_1, Int.toNat_natCast]
        exact ⟨true, rfl, by simp; exact ⟨i, Nat.le_refl _, hlt, c⟩⟩
  have := key _ 0 rfl (Nat.zero_le _)
  rw [Int.natCast_zero] at this
  rw [vokref4_numbered.f_eq]
  exact this.iff ⟨fun ⟨j, _, h⟩ => ⟨j, h⟩, fun ⟨j, h⟩ => ⟨j, Nat.zero_le _, h⟩⟩
end Go.GV.YtkkfgajlnpcpcaaGreatDoor
