/-
TimerUnion. (This session's own text.)
-/
import Derived.Test.YtfddmilldiadeaaTmMerge
set_option linter.unusedVariables false
set_option linter.unusedSimpArgs false
namespace Go.GV.Ytfddmilldiadeaa
open Go.Proofs
theorem tu_l2 (a b c m : List Int) (ha : a.length ≤ 1000) (hb : b.length ≤ 1000) (hm : m.length ≤ 1000000) (hr : rises m) (hin : ∀ x, x ∈ m → x ∈ a ∨ x ∈ b) : ∀ (k i : Nat), m.length - i = k → i ≤ m.length → voklaw11_TimerUnion.l2 a b c m i = voklaw11_TimerUnion.l4 a b c m 0 := by
  intro k
  induction k with
  | zero =>
    intro i hk hi
    rw [voklaw11_TimerUnion.l2_eq]
    simp (disch := omega) only [dp, dn, decide_true, decide_false, cond_true, cond_false, Bool.not_true, Bool.not_false, Bool.true_and, Bool.false_and, Bool.and_true, Bool.and_false, Bool.true_or, Bool.false_or, Bool.or_true, Bool.or_false, wr, Option.bind_some, tn_add, tn_add1, tn_sub1, tn_0, tn_1, Int.toNat_natCast]
  | succ k ih =>
    intro i hk hi
    have hlt : i < m.length := by omega
    have hab := hin _ (getD_mem' 0 hlt)
    have next : voklaw11_TimerUnion.l3 a b c m i false = voklaw11_TimerUnion.l4 a b c m 0 := by
      rw [voklaw11_TimerUnion.l3_eq]
      simp (disch := omega) only [dp, dn, decide_true, decide_false, cond_true, cond_false, Bool.not_true, Bool.not_false, Bool.true_and, Bool.false_and, Bool.and_true, Bool.and_false, Bool.true_or, Bool.false_or, Bool.or_true, Bool.or_false, wr, Option.bind_some, tn_add, tn_add1, tn_sub1, tn_0, tn_1, Int.toNat_natCast]
      exact ih (i + 1) (by omega) (by omega)
    rw [voklaw11_TimerUnion.l2_eq]
    have hA := vhas_spec a (by omega) (m.getD i 0)
    have hB := vhas_spec b (by omega) (m.getD i 0)
    by_cases h0 : i = 0
    · by_cases h1 : m.getD i 0 ∈ a
      · rw [decide_eq_true h1] at hA
        simp (disch := omega) only [dp, dn, decide_true, decide_false, cond_true, cond_false, Bool.not_true, Bool.not_false, Bool.true_and, Bool.false_and, Bool.and_true, Bool.and_false, Bool.true_or, Bool.false_or, Bool.or_true, Bool.or_false, wr, Option.bind_some, tn_add, tn_add1, tn_sub1, tn_0, tn_1, Int.toNat_natCast, hA, next]
      · have h2 := hab.resolve_left h1
        rw [decide_eq_false h1] at hA
        rw [decide_eq_true h2] at hB
        simp (disch := omega) only [dp, dn, decide_true, decide_false, cond_true, cond_false, Bool.not_true, Bool.not_false, Bool.true_and, Bool.false_and, Bool.and_true, Bool.and_false, Bool.true_or, Bool.false_or, Bool.or_true, Bool.or_false, wr, Option.bind_some, tn_add, tn_add1, tn_sub1, tn_0, tn_1, Int.toNat_natCast, hA, hB, next]
    · have w1 : IntKind.i64.wrap ((i : Int) - 1) = ((i - 1 : Nat) : Int) := wr_sub1 (by omega) (by omega)
      have hlt2 : ¬ m.getD i 0 ≤ m.getD (i - 1) 0 := by
        rw [getD_eq 0 hlt, getD_eq 0 (show i - 1 < m.length by omega)]
        have := List.pairwise_iff_getElem.1 hr (i - 1) i (by omega) hlt (by omega)
        omega
      by_cases h1 : m.getD i 0 ∈ a
      · rw [decide_eq_true h1] at hA
        simp (disch := omega) only [dp, dn, decide_true, decide_false, cond_true, cond_false, Bool.not_true, Bool.not_false, Bool.true_and, Bool.false_and, Bool.and_true, Bool.and_false, Bool.true_or, Bool.false_or, Bool.or_true, Bool.or_false, wr, Option.bind_some, tn_add, tn_add1, tn_sub1, tn_0, tn_1, Int.toNat_natCast, w1, hA, next]
      · have h2 := hab.resolve_left h1
        rw [decide_eq_false h1] at hA
        rw [decide_eq_true h2] at hB
        simp (disch := omega) only [dp, dn, decide_true, decide_false, cond_true, cond_false, Bool.not_true, Bool.not_false, Bool.true_and, Bool.false_and, Bool.and_true, Bool.and_false, Bool.true_or, Bool.false_or, Bool.or_true, Bool.or_false, wr, Option.bind_some, tn_add, tn_add1, tn_sub1, tn_0, tn_1, Int.toNat_natCast, w1, hA, hB, next]
theorem tu_l4 (a b c m : List Int) (ha : a.length ≤ 1000) (hb : b.length ≤ 1000) (hc : c.length ≤ 1000) (hm : m.length ≤ 1000000) (hr : rises m) (hin : ∀ x, x ∈ m ↔ x ∈ a ∨ x ∈ b) (hm2 : m.length ≤ 2000) : ∀ (k i : Nat), a.length - i = k → i ≤ a.length → voklaw11_TimerUnion.l4 a b c m i = some (true, ()) := by
  intro k
  induction k with
  | zero =>
    intro i hk hi
    obtain ⟨r, h1, h2, h3, h4⟩ := Merge_spec [m, c] (by simp) (by simp; omega)
    have g1 : timer_Merge.f [c, b, a] = some (r, ()) := merge_uniq (by simp) (by simp; omega) h2 fun x => by
      rw [h3]
      simp only [List.flatten_cons, List.flatten_nil, List.append_nil, List.mem_append, hin]
      constructor
      · rintro ((h | h) | h)
        · exact .inr (.inr h)
        · exact .inr (.inl h)
        · exact .inl h
      · rintro (h | h | h)
        · exact .inr h
        · exact .inl (.inr h)
        · exact .inl (.inl h)
    have g2 : timer_Merge.f [m] = some (m, ()) := merge_uniq (by simp) (by simp; omega) hr fun x => by simp
    simp only [sumL, List.flatten_cons, List.flatten_nil, List.append_nil, List.length_append] at h4
    rw [voklaw11_TimerUnion.l4_eq]
    simp (disch := omega) only [dp, dn, decide_true, decide_false, cond_true, cond_false, Bool.not_true, Bool.not_false, Bool.true_and, Bool.false_and, Bool.and_true, Bool.and_false, Bool.true_or, Bool.false_or, Bool.or_true, Bool.or_false, wr, Option.bind_some, tn_add, tn_add1, tn_sub1, tn_0, tn_1, Int.toNat_natCast, first_true, h1, g1, ints_same r (by omega), g2, ints_same m hm]
  | succ k ih =>
    intro i hk hi
    have hlt : i < a.length := by omega
    have hA := vhas_spec m hm (a.getD i 0)
    rw [decide_eq_true ((hin _).2 (.inl (getD_mem' 0 hlt)))] at hA
    rw [voklaw11_TimerUnion.l4_eq]
    simp (disch := omega) only [dp, dn, decide_true, decide_false, cond_true, cond_false, Bool.not_true, Bool.not_false, Bool.true_and, Bool.false_and, Bool.and_true, Bool.and_false, Bool.true_or, Bool.false_or, Bool.or_true, Bool.or_false, wr, Option.bind_some, tn_add, tn_add1, tn_sub1, tn_0, tn_1, Int.toNat_natCast, hA]
    exact ih (i + 1) (by omega) (by omega)
theorem TimerUnion_pure (a b c : List Int) : voklaw11_TimerUnion.f a b c = some (true, ()) := by
  rw [voklaw11_TimerUnion.f_eq]
  by_cases ha : (a.length : Int) > 1000
  · simp (disch := omega) only [dp, dn, decide_true, decide_false, cond_true, cond_false, Bool.not_true, Bool.not_false, Bool.true_and, Bool.false_and, Bool.and_true, Bool.and_false, Bool.true_or, Bool.false_or, Bool.or_true, Bool.or_false, wr, Option.bind_some, tn_add, tn_add1, tn_sub1, tn_0, tn_1, Int.toNat_natCast, first_true, voklaw11_TimerUnion.l1_eq]
  · by_cases hb : (b.length : Int) > 1000
    · simp (disch := omega) only [dp, dn, decide_true, decide_false, cond_true, cond_false, Bool.not_true, Bool.not_false, Bool.true_and, Bool.false_and, Bool.and_true, Bool.and_false, Bool.true_or, Bool.false_or, Bool.or_true, Bool.or_false, wr, Option.bind_some, tn_add, tn_add1, tn_sub1, tn_0, tn_1, Int.toNat_natCast, first_true, voklaw11_TimerUnion.l1_eq]
    · by_cases hc : (c.length : Int) > 1000
      · simp (disch := omega) only [dp, dn, decide_true, decide_false, cond_true, cond_false, Bool.not_true, Bool.not_false, Bool.true_and, Bool.false_and, Bool.and_true, Bool.and_false, Bool.true_or, Bool.false_or, Bool.or_true, Bool.or_false, wr, Option.bind_some, tn_add, tn_add1, tn_sub1, tn_0, tn_1, Int.toNat_natCast, first_true, voklaw11_TimerUnion.l1_eq]
      · obtain ⟨m, h1, h2, h3, h4⟩ := Merge_spec [a, b] (by simp) (by simp; omega)
        simp only [sumL, List.flatten_cons, List.flatten_nil, List.append_nil, List.length_append, List.mem_append] at h3 h4
        have e1 := tu_l2 a b c m (by omega) (by omega) (by omega) h2 (fun x => (h3 x).1) _ 0 rfl (Nat.zero_le _)
        have e2 := tu_l4 a b c m (by omega) (by omega) (by omega) (by omega) h2 h3 (by omega) _ 0 rfl (Nat.zero_le _)
        rw [Int.natCast_zero] at e1 e2
        rw [e2] at e1
        simp (disch := omega) only [dp, dn, decide_true, decide_false, cond_true, cond_false, Bool.not_true, Bool.not_false, Bool.true_and, Bool.false_and, Bool.and_true, Bool.and_false, Bool.true_or, Bool.false_or, Bool.or_true, Bool.or_false, wr, Option.bind_some, tn_add, tn_add1, tn_sub1, tn_0, tn_1, Int.toNat_natCast, first_true, voklaw11_TimerUnion.l1_eq, h1, e1]
end Go.GV.Ytfddmilldiadeaa
