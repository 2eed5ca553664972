/-
slices.Compact, of numbers and of days. (This session's own text.)
-/
import Derived.Test.YtkkfgajlnpcpcaaGreatDoorInts
set_option linter.unusedVariables false
set_option linter.unusedSimpArgs false
namespace Go.GV.YtkkfgajlnpcpcaaGreatDoor
open Go.Proofs
/-! ### slices.Compact -/
def dd : Int → List Int → List Int
  | _, [] => []
  | p, a :: l => if a = p then dd a l else a :: dd a l
theorem dd_mem : ∀ (l : List Int) (p x : Int), x ∈ dd p l ∨ x = p ↔ x ∈ l ∨ x = p
  | [], p, x => by simp [dd]
  | a :: l, p, x => by
    unfold dd
    have ih := dd_mem l a x
    by_cases h : a = p
    · subst h
      rw [if_pos rfl, ih, List.mem_cons]
      constructor
      · rintro (h | h)
        · exact .inl (.inr h)
        · exact .inr h
      · rintro ((h | h) | h)
        · exact .inr h
        · exact .inl h
        · exact .inr h
    · rw [if_neg h, List.mem_cons, List.mem_cons]
      constructor
      · rintro ((h1 | h1) | h1)
        · exact .inl (.inl h1)
        · rcases ih.1 (.inl h1) with h2 | h2
          · exact .inl (.inr h2)
          · exact .inl (.inl h2)
        · exact .inr h1
      · rintro ((h1 | h1) | h1)
        · exact .inl (.inl h1)
        · rcases ih.2 (.inl h1) with h2 | h2
          · exact .inl (.inr h2)
          · exact .inl (.inl h2)
        · exact .inr h1
theorem dd_rises : ∀ (l : List Int) (p : Int), (p :: l).Pairwise (· ≤ ·) → rises (p :: dd p l)
  | [], p, _ => List.pairwise_singleton _ _
  | a :: l, p, h => by
    unfold dd
    rw [List.pairwise_cons] at h
    have ih := dd_rises l a h.2
    by_cases he : a = p
    · subst he; rw [if_pos rfl]; exact ih
    · rw [if_neg he]
      have hlt : p < a := by have := h.1 a List.mem_cons_self; omega
      refine List.pairwise_cons.2 ⟨fun b hb => ?_, ih⟩
      rcases List.mem_cons.1 hb with rfl | hb
      · exact hlt
      · have := (List.pairwise_cons.1 ih).1 b hb; omega
def dds : List Int → List Int
  | [] => []
  | a :: l => a :: dd a l
theorem comp_l3 (N : Nat) (hN : N ≤ 1000000) (b : Nat) : ∀ (k i q : Nat) (y : List Int), y.length = N → N - (b + q) = k → 1 ≤ q → i < b + q → b + q ≤ N →
    slices_Compact_int_int.l3 i b q y = some (y.take i ++ dd (y.getD (b + q - 1) 0) (y.drop (b + q)), ()) := by
  intro k
  induction k with
  | zero =>
    intro i q y hy hk hq hi hb
    have e : b + q = y.length := by omega
    have e2 : (y.take i ++ List.replicate (y.length - i) 0).take i = y.take i := by
      rw [List.take_append_of_le_length (by rw [List.length_take]; omega), List.take_take, Nat.min_self]
    rw [slices_Compact_int_int.l3_eq, e, List.drop_length]
    simp (disch := omega) only [dp, dn, decide_true, decide_false, cond_true, cond_false, Bool.not_true, Bool.not_false, Bool.true_and, Bool.false_and, Bool.and_true, Bool.and_false, Bool.true_or, Bool.false_or, Bool.or_true, Bool.or_false, wr, Option.bind_some, tn_add, tn_add1, tn_sub1, tn_0, tn_1, Int.toNat_natCast, List.length_append, List.length_take, List.length_replicate, e2, slices_Compact_int_int.l4_eq, dd, List.append_nil]
  | succ k ih =>
    intro i q y hy hk hq hi hb
    have hlt : b + q < y.length := by omega
    have w1 : IntKind.i64.wrap ((q : Int) - 1) = ((q - 1 : Nat) : Int) := wr_sub1 (by omega) (by omega)
    have w2 : ((b : Int) + ((q - 1 : Nat) : Int)).toNat = b + q - 1 := by omega
    have e1 : ((q : Int) < ((y.length - b : Nat) : Int)) := by omega
    rw [slices_Compact_int_int.l3_eq, drop_getD' 0 hlt]
    simp (disch := omega) only [dp, dn, decide_true, decide_false, cond_true, cond_false, Bool.not_true, Bool.not_false, Bool.true_and, Bool.false_and, Bool.and_true, Bool.and_false, Bool.true_or, Bool.false_or, Bool.or_true, Bool.or_false, wr, Option.bind_some, tn_add, tn_add1, tn_sub1, tn_0, tn_1, Int.toNat_natCast, w1, w2, e1, List.length_drop, dd]
    by_cases hc : y.getD (b + q) 0 = y.getD (b + q - 1) 0
    · simp (disch := omega) only [dp, dn, decide_true, decide_false, cond_true, cond_false, Bool.not_true, Bool.not_false, Bool.true_and, Bool.false_and, Bool.and_true, Bool.and_false, Bool.true_or, Bool.false_or, Bool.or_true, Bool.or_false, wr, Option.bind_some, tn_add, tn_add1, tn_sub1, tn_0, tn_1, Int.toNat_natCast, if_pos hc]
      have := ih i (q + 1) y hy (by omega) (by omega) (by omega) (by omega)
      rw [show b + (q + 1) - 1 = b + q by omega, show b + (q + 1) = b + q + 1 by omega] at this
      exact this
    · simp (disch := omega) only [dp, dn, decide_true, decide_false, cond_true, cond_false, Bool.not_true, Bool.not_false, Bool.true_and, Bool.false_and, Bool.and_true, Bool.and_false, Bool.true_or, Bool.false_or, Bool.or_true, Bool.or_false, wr, Option.bind_some, tn_add, tn_add1, tn_sub1, tn_0, tn_1, Int.toNat_natCast, if_neg hc]
      have := ih (i + 1) (q + 1) (y.set i (y.getD (b + q) 0)) (by simp [hy]) (by omega) (by omega) (by omega) (by omega)
      refine this.trans ?_
      have g1 : (y.set i (y.getD (b + q) 0)).getD (b + (q + 1) - 1) 0 = y.getD (b + q) 0 := by
        rw [show b + (q + 1) - 1 = b + q by omega, List.getD_eq_getElem?_getD, List.getD_eq_getElem?_getD, List.getElem?_set]
        by_cases h : i = b + q
        · omega
        · rw [if_neg h]
      have g2 : (y.set i (y.getD (b + q) 0)).getD i 0 = y.getD (b + q) 0 := by rw [getD_eq 0 (show i < (y.set i (y.getD (b + q) 0)).length by simp; omega)]; simp
      rw [g1, take_getD' 0 (show i < (y.set i (y.getD (b + q) 0)).length by simp; omega), List.drop_set_of_lt (by omega), List.take_set_of_le (Nat.le_refl i), g2, show b + (q + 1) = b + q + 1 by omega]
      simp
theorem comp_l2 (y : List Int) (hN : y.length ≤ 1000000) : ∀ (k q : Nat), y.length - q = k → 1 ≤ q → q ≤ y.length →
    slices_Compact_int_int.l2 q y = some (y.take q ++ dd (y.getD (q - 1) 0) (y.drop q), ()) := by
  intro k
  induction k with
  | zero =>
    intro q hk hq hq2
    have e : q = y.length := by omega
    subst e
    rw [slices_Compact_int_int.l2_eq]
    simp (disch := omega) only [dp, dn, decide_true, decide_false, cond_true, cond_false, Bool.not_true, Bool.not_false, Bool.true_and, Bool.false_and, Bool.and_true, Bool.and_false, Bool.true_or, Bool.false_or, Bool.or_true, Bool.or_false, wr, Option.bind_some, tn_add, tn_add1, tn_sub1, tn_0, tn_1, Int.toNat_natCast, slices_Compact_int_int.l5_eq, List.drop_length, List.take_length, dd, List.append_nil]
  | succ k ih =>
    intro q hk hq hq2
    have hlt : q < y.length := by omega
    have w1 : IntKind.i64.wrap ((q : Int) - 1) = ((q - 1 : Nat) : Int) := wr_sub1 (by omega) (by omega)
    rw [slices_Compact_int_int.l2_eq, drop_getD' 0 hlt]
    simp (disch := omega) only [dp, dn, decide_true, decide_false, cond_true, cond_false, Bool.not_true, Bool.not_false, Bool.true_and, Bool.false_and, Bool.and_true, Bool.and_false, Bool.true_or, Bool.false_or, Bool.or_true, Bool.or_false, wr, Option.bind_some, tn_add, tn_add1, tn_sub1, tn_0, tn_1, Int.toNat_natCast, w1, dd]
    by_cases hc : y.getD q 0 = y.getD (q - 1) 0
    · simp (disch := omega) only [dp, dn, decide_true, decide_false, cond_true, cond_false, Bool.not_true, Bool.not_false, Bool.true_and, Bool.false_and, Bool.and_true, Bool.and_false, Bool.true_or, Bool.false_or, Bool.or_true, Bool.or_false, wr, Option.bind_some, tn_add, tn_add1, tn_sub1, tn_0, tn_1, Int.toNat_natCast, if_pos hc]
      have := comp_l3 y.length hN q _ q 1 y rfl rfl (Nat.le_refl _) (by omega) (by omega)
      rw [show q + 1 - 1 = q by omega] at this
      exact this
    · simp (disch := omega) only [dp, dn, decide_true, decide_false, cond_true, cond_false, Bool.not_true, Bool.not_false, Bool.true_and, Bool.false_and, Bool.and_true, Bool.and_false, Bool.true_or, Bool.false_or, Bool.or_true, Bool.or_false, wr, Option.bind_some, tn_add, tn_add1, tn_sub1, tn_0, tn_1, Int.toNat_natCast, if_neg hc]
      have := ih (q + 1) (by omega) (by omega) (by omega)
      rw [show q + 1 - 1 = q by omega, take_getD' 0 hlt] at this
      refine Eq.trans this ?_
      simp
theorem compact_spec (y : List Int) (hN : y.length ≤ 1000000) : slices_Compact_int_int.f y = some (dds y, ()) := by
  rw [slices_Compact_int_int.f_eq]
  cases y with
  | nil => simp (disch := omega) only [dp, dn, decide_true, decide_false, cond_true, cond_false, Bool.not_true, Bool.not_false, Bool.true_and, Bool.false_and, Bool.and_true, Bool.and_false, Bool.true_or, Bool.false_or, Bool.or_true, Bool.or_false, wr, Option.bind_some, tn_add, tn_add1, tn_sub1, tn_0, tn_1, Int.toNat_natCast, List.length_nil, Int.natCast_zero, slices_Compact_int_int.l1_eq]; rfl
  | cons a l =>
    by_cases h : l = []
    · subst h
      simp (disch := omega) only [dp, dn, decide_true, decide_false, cond_true, cond_false, Bool.not_true, Bool.not_false, Bool.true_and, Bool.false_and, Bool.and_true, Bool.and_false, Bool.true_or, Bool.false_or, Bool.or_true, Bool.or_false, wr, Option.bind_some, tn_add, tn_add1, tn_sub1, tn_0, tn_1, Int.toNat_natCast, List.length_cons, List.length_nil, slices_Compact_int_int.l1_eq]
      rfl
    · have h1 : 0 < l.length := List.length_pos_iff.2 h
      have := comp_l2 (a :: l) hN _ 1 rfl (Nat.le_refl _) (by simp)
      simp (disch := omega) only [dp, dn, decide_true, decide_false, cond_true, cond_false, Bool.not_true, Bool.not_false, Bool.true_and, Bool.false_and, Bool.and_true, Bool.and_false, Bool.true_or, Bool.false_or, Bool.or_true, Bool.or_false, wr, Option.bind_some, tn_add, tn_add1, tn_sub1, tn_0, tn_1, Int.toNat_natCast, List.length_cons]
      refine Eq.trans this ?_
      rfl
/-! ### The same of days -/
abbrev Dy := Int × Int × Unit
theorem dy_eq (a b : Dy) : (decide (a.1 = b.1) && decide (a.2.1 = b.2.1)) = decide (a = b) := by
  obtain ⟨a1, a2, ⟨⟩⟩ := a
  obtain ⟨b1, b2, ⟨⟩⟩ := b
  rw [Bool.eq_iff_iff]
  simp
def dyLt (a b : Dy) : Prop := a.1 < b.1 ∨ a.1 = b.1 ∧ a.2.1 < b.2.1
def ddT : Dy → List Dy → List Dy
  | _, [] => []
  | p, a :: l => if a = p then ddT a l else a :: ddT a l
def ddsT : List Dy → List Dy
  | [] => []
  | a :: l => a :: ddT a l
theorem dcomp_l3 (N : Nat) (hN : N ≤ 1000000) (b : Nat) : ∀ (k i q : Nat) (y : List Dy), y.length = N → N - (b + q) = k → 1 ≤ q → i < b + q → b + q ≤ N →
    slices_Compact_api_Day_api_Day.l3 i b q y = some (y.take i ++ ddT (y.getD (b + q - 1) ((0, 0, ()) : Int × Int × Unit)) (y.drop (b + q)), ()) := by
  intro k
  induction k with
  | zero =>
    intro i q y hy hk hq hi hb
    have e : b + q = y.length := by omega
    have e2 : (y.take i ++ List.replicate (y.length - i) ((0, 0, ()) : Int × Int × Unit)).take i = y.take i := by
      rw [List.take_append_of_le_length (by rw [List.length_take]; omega), List.take_take, Nat.min_self]
    rw [slices_Compact_api_Day_api_Day.l3_eq, e, List.drop_length]
    simp (disch := omega) only [dp, dn, decide_true, decide_false, cond_true, cond_false, Bool.not_true, Bool.not_false, Bool.true_and, Bool.false_and, Bool.and_true, Bool.and_false, Bool.true_or, Bool.false_or, Bool.or_true, Bool.or_false, wr, Option.bind_some, tn_add, tn_add1, tn_sub1, tn_0, tn_1, Int.toNat_natCast, List.length_append, List.length_take, List.length_replicate, e2, slices_Compact_api_Day_api_Day.l4_eq, ddT, List.append_nil]
  | succ k ih =>
    intro i q y hy hk hq hi hb
    have hlt : b + q < y.length := by omega
    have w1 : IntKind.i64.wrap ((q : Int) - 1) = ((q - 1 : Nat) : Int) := wr_sub1 (by omega) (by omega)
    have w2 : ((b : Int) + ((q - 1 : Nat) : Int)).toNat = b + q - 1 := by omega
    have e1 : ((q : Int) < ((y.length - b : Nat) : Int)) := by omega
    rw [slices_Compact_api_Day_api_Day.l3_eq, drop_getD' ((0, 0, ()) : Int × Int × Unit) hlt]
    simp (disch := omega) only [dp, dn, decide_true, decide_false, cond_true, cond_false, Bool.not_true, Bool.not_false, Bool.true_and, Bool.false_and, Bool.and_true, Bool.and_false, Bool.true_or, Bool.false_or, Bool.or_true, Bool.or_false, wr, Option.bind_some, tn_add, tn_add1, tn_sub1, tn_0, tn_1, Int.toNat_natCast, w1, w2, e1, List.length_drop, ddT]
    by_cases hc : y.getD (b + q) ((0, 0, ()) : Int × Int × Unit) = y.getD (b + q - 1) ((0, 0, ()) : Int × Int × Unit)
    · have hc1 := decide_eq_true hc
      simp (disch := omega) only [dp, dn, decide_true, decide_false, cond_true, cond_false, Bool.not_true, Bool.not_false, Bool.true_and, Bool.false_and, Bool.and_true, Bool.and_false, Bool.true_or, Bool.false_or, Bool.or_true, Bool.or_false, wr, Option.bind_some, tn_add, tn_add1, tn_sub1, tn_0, tn_1, Int.toNat_natCast, dy_eq, hc1, if_pos hc]
      have := ih i (q + 1) y hy (by omega) (by omega) (by omega) (by omega)
      rw [show b + (q + 1) - 1 = b + q by omega, show b + (q + 1) = b + q + 1 by omega] at this
      exact this
    · have hc1 := decide_eq_false hc
      simp (disch := omega) only [dp, dn, decide_true, decide_false, cond_true, cond_false, Bool.not_true, Bool.not_false, Bool.true_and, Bool.false_and, Bool.and_true, Bool.and_false, Bool.true_or, Bool.false_or, Bool.or_true, Bool.or_false, wr, Option.bind_some, tn_add, tn_add1, tn_sub1, tn_0, tn_1, Int.toNat_natCast, dy_eq, hc1, if_neg hc]
      have := ih (i + 1) (q + 1) (y.set i (y.getD (b + q) ((0, 0, ()) : Int × Int × Unit))) (by simp [hy]) (by omega) (by omega) (by omega) (by omega)
      refine this.trans ?_
      have g1 : (y.set i (y.getD (b + q) ((0, 0, ()) : Int × Int × Unit))).getD (b + (q + 1) - 1) ((0, 0, ()) : Int × Int × Unit) = y.getD (b + q) ((0, 0, ()) : Int × Int × Unit) := by
        rw [show b + (q + 1) - 1 = b + q by omega, List.getD_eq_getElem?_getD, List.getD_eq_getElem?_getD, List.getElem?_set]
        by_cases h : i = b + q
        · omega
        · rw [if_neg h]
      have g2 : (y.set i (y.getD (b + q) ((0, 0, ()) : Int × Int × Unit))).getD i ((0, 0, ()) : Int × Int × Unit) = y.getD (b + q) ((0, 0, ()) : Int × Int × Unit) := by rw [getD_eq ((0, 0, ()) : Int × Int × Unit) (show i < (y.set i (y.getD (b + q) ((0, 0, ()) : Int × Int × Unit))).length by simp; omega)]; simp
      rw [g1, take_getD' ((0, 0, ()) : Int × Int × Unit) (show i < (y.set i (y.getD (b + q) ((0, 0, ()) : Int × Int × Unit))).length by simp; omega), List.drop_set_of_lt (by omega), List.take_set_of_le (Nat.le_refl i), g2, show b + (q + 1) = b + q + 1 by omega]
      simp
theorem dcomp_l2 (y : List Dy) (hN : y.length ≤ 1000000) : ∀ (k q : Nat), y.length - q = k → 1 ≤ q → q ≤ y.length →
    slices_Compact_api_Day_api_Day.l2 q y = some (y.take q ++ ddT (y.getD (q - 1) ((0, 0, ()) : Int × Int × Unit)) (y.drop q), ()) := by
  intro k
  induction k with
  | zero =>
    intro q hk hq hq2
    have e : q = y.length := by omega
    subst e
    rw [slices_Compact_api_Day_api_Day.l2_eq]
    simp (disch := omega) only [dp, dn, decide_true, decide_false, cond_true, cond_false, Bool.not_true, Bool.not_false, Bool.true_and, Bool.false_and, Bool.and_true, Bool.and_false, Bool.true_or, Bool.false_or, Bool.or_true, Bool.or_false, wr, Option.bind_some, tn_add, tn_add1, tn_sub1, tn_0, tn_1, Int.toNat_natCast, slices_Compact_api_Day_api_Day.l5_eq, List.drop_length, List.take_length, ddT, List.append_nil]
  | succ k ih =>
    intro q hk hq hq2
    have hlt : q < y.length := by omega
    have w1 : IntKind.i64.wrap ((q : Int) - 1) = ((q - 1 : Nat) : Int) := wr_sub1 (by omega) (by omega)
    rw [slices_Compact_api_Day_api_Day.l2_eq, drop_getD' ((0, 0, ()) : Int × Int × Unit) hlt]
    simp (disch := omega) only [dp, dn, decide_true, decide_false, cond_true, cond_false, Bool.not_true, Bool.not_false, Bool.true_and, Bool.false_and, Bool.and_true, Bool.and_false, Bool.true_or, Bool.false_or, Bool.or_true, Bool.or_false, wr, Option.bind_some, tn_add, tn_add1, tn_sub1, tn_0, tn_1, Int.toNat_natCast, w1, ddT]
    by_cases hc : y.getD q ((0, 0, ()) : Int × Int × Unit) = y.getD (q - 1) ((0, 0, ()) : Int × Int × Unit)
    · have hc1 := decide_eq_true hc
      simp (disch := omega) only [dp, dn, decide_true, decide_false, cond_true, cond_false, Bool.not_true, Bool.not_false, Bool.true_and, Bool.false_and, Bool.and_true, Bool.and_false, Bool.true_or, Bool.false_or, Bool.or_true, Bool.or_false, wr, Option.bind_some, tn_add, tn_add1, tn_sub1, tn_0, tn_1, Int.toNat_natCast, dy_eq, hc1, if_pos hc]
      have := dcomp_l3 y.length hN q _ q 1 y rfl rfl (Nat.le_refl _) (by omega) (by omega)
      rw [show q + 1 - 1 = q by omega] at this
      exact this
    · have hc1 := decide_eq_false hc
      simp (disch := omega) only [dp, dn, decide_true, decide_false, cond_true, cond_false, Bool.not_true, Bool.not_false, Bool.true_and, Bool.false_and, Bool.and_true, Bool.and_false, Bool.true_or, Bool.false_or, Bool.or_true, Bool.or_false, wr, Option.bind_some, tn_add, tn_add1, tn_sub1, tn_0, tn_1, Int.toNat_natCast, dy_eq, hc1, if_neg hc]
      have := ih (q + 1) (by omega) (by omega) (by omega)
      rw [show q + 1 - 1 = q by omega, take_getD' ((0, 0, ()) : Int × Int × Unit) hlt] at this
      refine Eq.trans this ?_
      simp
theorem dcompact_spec (y : List Dy) (hN : y.length ≤ 1000000) : slices_Compact_api_Day_api_Day.f y = some (ddsT y, ()) := by
  rw [slices_Compact_api_Day_api_Day.f_eq]
  cases y with
  | nil => simp (disch := omega) only [dp, dn, decide_true, decide_false, cond_true, cond_false, Bool.not_true, Bool.not_false, Bool.true_and, Bool.false_and, Bool.and_true, Bool.and_false, Bool.true_or, Bool.false_or, Bool.or_true, Bool.or_false, wr, Option.bind_some, tn_add, tn_add1, tn_sub1, tn_0, tn_1, Int.toNat_natCast, List.length_nil, Int.natCast_zero, slices_Compact_api_Day_api_Day.l1_eq]; rfl
  | cons a l =>
    by_cases h : l = []
    · subst h
      simp (disch := omega) only [dp, dn, decide_true, decide_false, cond_true, cond_false, Bool.not_true, Bool.not_false, Bool.true_and, Bool.false_and, Bool.and_true, Bool.and_false, Bool.true_or, Bool.false_or, Bool.or_true, Bool.or_false, wr, Option.bind_some, tn_add, tn_add1, tn_sub1, tn_0, tn_1, Int.toNat_natCast, List.length_cons, List.length_nil, slices_Compact_api_Day_api_Day.l1_eq]
      rfl
    · have h1 : 0 < l.length := List.length_pos_iff.2 h
      have := dcomp_l2 (a :: l) hN _ 1 rfl (Nat.le_refl _) (by simp)
      simp (disch := omega) only [dp, dn, decide_true, decide_false, cond_true, cond_false, Bool.not_true, Bool.not_false, Bool.true_and, Bool.false_and, Bool.and_true, Bool.and_false, Bool.true_or, Bool.false_or, Bool.or_true, Bool.or_false, wr, Option.bind_some, tn_add, tn_add1, tn_sub1, tn_0, tn_1, Int.toNat_natCast, List.length_cons]
      refine Eq.trans this ?_
      rfl
end Go.GV.YtkkfgajlnpcpcaaGreatDoor
