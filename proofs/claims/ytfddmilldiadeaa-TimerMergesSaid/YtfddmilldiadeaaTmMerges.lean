/-
TimerMerges, TimerUnion. (This session's own text.)
-/
import Derived.Test.YtfddmilldiadeaaTmMerge
set_option linter.unusedVariables false
set_option linter.unusedSimpArgs false
namespace Go.GV.Ytfddmilldiadeaa
open Go.Proofs
theorem copy_ints (a : List Int) (ha : a.length ≤ 1000000) : vokref_CopyInts.f a = some (a, ()) := by
  have hlim : limit = 17179869184 := rfl
  rw [vokref_CopyInts.f_eq]
  simp (disch := omega) only [dp, dn, decide_true, decide_false, cond_true, cond_false, Bool.not_true, Bool.not_false, Bool.true_and, Bool.false_and, Bool.and_true, Bool.and_false, Bool.true_or, Bool.false_or, Bool.or_true, Bool.or_false, wr, Option.bind_some, tn_add, tn_add1, tn_sub1, tn_0, tn_1, Int.toNat_natCast, List.length_nil, hlim, List.nil_append]
theorem vm_l1 (l : List (List Int)) (hl : l.length ≤ 1000000) (hs : sumL l ≤ 1000000) : ∀ (k i : Nat), l.length - i = k → i ≤ l.length →
    vokref10_Merge.l1 l i (l.take i).flatten = (vokref_Sorted.f l.flatten).bind fun t1 => some (t1.1, ()) := by
  have hlim : limit = 17179869184 := rfl
  intro k
  induction k with
  | zero =>
    intro i hk hi
    have e : i = l.length := by omega
    subst e
    rw [vokref10_Merge.l1_eq, List.take_length]
    simp (disch := omega) only [dp, dn, decide_true, decide_false, cond_true, cond_false, Bool.not_true, Bool.not_false, Bool.true_and, Bool.false_and, Bool.and_true, Bool.and_false, Bool.true_or, Bool.false_or, Bool.or_true, Bool.or_false, wr, Option.bind_some, tn_add, tn_add1, tn_sub1, tn_0, tn_1, Int.toNat_natCast]
  | succ k ih =>
    intro i hk hi
    have hlt : i < l.length := by omega
    have ht := take_getD' (z := ([] : List Int)) hlt
    have hlen : (l.take i).flatten.length + (l.getD i []).length ≤ 1000000 := by
      have h1 : (l.take (i + 1)).flatten.length ≤ sumL l := by
        conv => rhs; rw [sumL, ← List.take_append_drop (i + 1) l, List.flatten_append, List.length_append]
        omega
      rw [ht] at h1
      simp only [List.flatten_append, List.length_append, List.flatten_cons, List.flatten_nil, List.append_nil] at h1
      omega
    have := ih (i + 1) (by omega) (by omega)
    rw [ht] at this
    simp only [List.flatten_append, List.flatten_cons, List.flatten_nil, List.append_nil] at this
    rw [vokref10_Merge.l1_eq]
    simp (disch := omega) only [dp, dn, decide_true, decide_false, cond_true, cond_false, Bool.not_true, Bool.not_false, Bool.true_and, Bool.false_and, Bool.and_true, Bool.and_false, Bool.true_or, Bool.false_or, Bool.or_true, Bool.or_false, wr, Option.bind_some, tn_add, tn_add1, tn_sub1, tn_0, tn_1, Int.toNat_natCast, hlim]
    exact this
theorem vmerge_spec (l : List (List Int)) (hl : l.length ≤ 1000000) (hs : sumL l ≤ 1000000) : ∃ r, timer_Merge.f l = some (r, ()) ∧ vokref10_Merge.f l = some (r, ()) ∧ r.length ≤ 1000000 := by
  obtain ⟨r, h1, h2, h3, h4⟩ := Merge_spec l hl hs
  obtain ⟨q, h5, h6, h7⟩ := Sorted_spec l.flatten hs
  have e : r = q := rises_uniq h2 h6 fun x => (h3 x).trans (h7 x).symm
  subst e
  refine ⟨r, h1, ?_, by omega⟩
  have := vm_l1 l hl hs _ 0 rfl (Nat.zero_le _)
  rw [List.take_zero, List.flatten_nil, Int.natCast_zero, h5] at this
  rw [vokref10_Merge.f_eq, this]
  rfl
/-! ### TimerMerges -/
theorem tm_l6a (l : List (List Int)) (hl : l.length ≤ 1000000) (hs : ∀ q ∈ l, q.length ≤ 1000000) : ∀ (k i : Nat), l.length - i = k → i ≤ l.length → voklaw11_TimerMerges.l6a l l i = some (true, ()) := by
  intro k
  induction k with
  | zero =>
    intro i hk hi
    rw [voklaw11_TimerMerges.l6a_eq]
    simp (disch := omega) only [dp, dn, decide_true, decide_false, cond_true, cond_false, Bool.not_true, Bool.not_false, Bool.true_and, Bool.false_and, Bool.and_true, Bool.and_false, Bool.true_or, Bool.false_or, Bool.or_true, Bool.or_false, wr, Option.bind_some, tn_add, tn_add1, tn_sub1, tn_0, tn_1, Int.toNat_natCast, first_true]
  | succ k ih =>
    intro i hk hi
    have hlt : i < l.length := by omega
    rw [voklaw11_TimerMerges.l6a_eq]
    simp (disch := omega) only [dp, dn, decide_true, decide_false, cond_true, cond_false, Bool.not_true, Bool.not_false, Bool.true_and, Bool.false_and, Bool.and_true, Bool.and_false, Bool.true_or, Bool.false_or, Bool.or_true, Bool.or_false, wr, Option.bind_some, tn_add, tn_add1, tn_sub1, tn_0, tn_1, Int.toNat_natCast, ints_same _ (hs _ (getD_mem' [] hlt))]
    exact ih (i + 1) (by omega) (by omega)
theorem tm_l5a (l : List (List Int)) (hl : l.length ≤ 1000000) (hs : sumL l ≤ 1000000) (hq : ∀ q ∈ l, q.length ≤ 1000000) : ∀ (k i : Nat), l.length - i = k → i ≤ l.length → voklaw11_TimerMerges.l5a l i (l.take i) = some (true, ()) := by
  have hlim : limit = 17179869184 := rfl
  intro k
  induction k with
  | zero =>
    intro i hk hi
    have e : i = l.length := by omega
    subst e
    obtain ⟨r, h1, h2, h3⟩ := vmerge_spec l hl hs
    have h4 := tm_l6a l hl hq _ 0 rfl (Nat.zero_le _)
    rw [Int.natCast_zero] at h4
    rw [voklaw11_TimerMerges.l5a_eq, List.take_length]
    simp (disch := omega) only [dp, dn, decide_true, decide_false, cond_true, cond_false, Bool.not_true, Bool.not_false, Bool.true_and, Bool.false_and, Bool.and_true, Bool.and_false, Bool.true_or, Bool.false_or, Bool.or_true, Bool.or_false, wr, Option.bind_some, tn_add, tn_add1, tn_sub1, tn_0, tn_1, Int.toNat_natCast, h1, h2, ints_same r h3, h4]
  | succ k ih =>
    intro i hk hi
    have hlt : i < l.length := by omega
    have := ih (i + 1) (by omega) (by omega)
    rw [take_getD' ([] : List Int) hlt] at this
    rw [voklaw11_TimerMerges.l5a_eq]
    simp (disch := omega) only [dp, dn, decide_true, decide_false, cond_true, cond_false, Bool.not_true, Bool.not_false, Bool.true_and, Bool.false_and, Bool.and_true, Bool.and_false, Bool.true_or, Bool.false_or, Bool.or_true, Bool.or_false, wr, Option.bind_some, tn_add, tn_add1, tn_sub1, tn_0, tn_1, Int.toNat_natCast, copy_ints _ (hq _ (getD_mem' [] hlt)), List.length_singleton, List.length_take, hlim]
    exact this
theorem tm_l5 (l : List (List Int)) (hl : l.length ≤ 1000000) (hs : sumL l ≤ 1000000) (hq : ∀ q ∈ l, q.length ≤ 1000000) : voklaw11_TimerMerges.l5 l 0 = some (true, ()) := by
  have hlim : limit = 17179869184 := rfl
  rw [voklaw11_TimerMerges.l5_eq]
  by_cases h0 : l.length = 0
  · have e : l = [] := List.length_eq_zero_iff.1 h0
    subst e
    obtain ⟨r, h1, h2, h3⟩ := vmerge_spec [] hl hs
    simp (disch := omega) only [dp, dn, decide_true, decide_false, cond_true, cond_false, Bool.not_true, Bool.not_false, Bool.true_and, Bool.false_and, Bool.and_true, Bool.and_false, Bool.true_or, Bool.false_or, Bool.or_true, Bool.or_false, wr, Option.bind_some, tn_add, tn_add1, tn_sub1, tn_0, tn_1, Int.toNat_natCast, h1, h2, ints_same r h3, voklaw11_TimerMerges.l6_eq, List.length_nil, Int.natCast_zero, first_true]
  · have := tm_l5a l hl hs hq _ 1 rfl (by omega)
    rw [show l.take 1 = [] ++ [l.getD 0 []] from take_getD' ([] : List Int) (i := 0) (by omega)] at this
    simp (disch := omega) only [dp, dn, decide_true, decide_false, cond_true, cond_false, Bool.not_true, Bool.not_false, Bool.true_and, Bool.false_and, Bool.and_true, Bool.and_false, Bool.true_or, Bool.false_or, Bool.or_true, Bool.or_false, wr, Option.bind_some, tn_add, tn_add1, tn_sub1, tn_0, tn_1, Int.toNat_natCast, copy_ints _ (hq _ (getD_mem' [] (show 0 < l.length by omega))), List.length_singleton, List.length_nil, hlim]
    exact this
theorem len_le_sum {l : List (List Int)} {q : List Int} (h : q ∈ l) : q.length ≤ sumL l := by
  induction l with
  | nil => cases h
  | cons a l ih =>
    simp only [sumL, List.flatten_cons, List.length_append]
    rcases List.mem_cons.1 h with e | h
    · subst e; omega
    · have := ih h; simp only [sumL] at this; omega
theorem tm_l1 (l : List (List Int)) : ∀ (k i n : Nat), 100 - i = k → i ≤ l.length → i ≤ 100 → n ≤ 3001 * i → (n ≤ 3000 → sumL (l.take i) ≤ n) → voklaw11_TimerMerges.l1 l n i = some (true, ()) := by
  have done : ∀ (i n : Nat), (i = l.length ∨ i = 100) → i ≤ l.length → i ≤ 100 → n ≤ 3001 * i → (n ≤ 3000 → sumL (l.take i) ≤ n) → voklaw11_TimerMerges.l3 l n = some (true, ()) := by
    intro i n h1 h2 h3 h4 h5
    rw [voklaw11_TimerMerges.l3_eq]
    by_cases c1 : (l.length : Int) > 100
    · simp (disch := omega) only [dp, dn, decide_true, decide_false, cond_true, cond_false, Bool.not_true, Bool.not_false, Bool.true_and, Bool.false_and, Bool.and_true, Bool.and_false, Bool.true_or, Bool.false_or, Bool.or_true, Bool.or_false, wr, Option.bind_some, tn_add, tn_add1, tn_sub1, tn_0, tn_1, Int.toNat_natCast, voklaw11_TimerMerges.l4_eq, first_true]
    · by_cases c2 : (n : Int) > 3000
      · simp (disch := omega) only [dp, dn, decide_true, decide_false, cond_true, cond_false, Bool.not_true, Bool.not_false, Bool.true_and, Bool.false_and, Bool.and_true, Bool.and_false, Bool.true_or, Bool.false_or, Bool.or_true, Bool.or_false, wr, Option.bind_some, tn_add, tn_add1, tn_sub1, tn_0, tn_1, Int.toNat_natCast, voklaw11_TimerMerges.l4_eq, first_true]
      · have e : i = l.length := by omega
        have h6 := h5 (by omega)
        rw [e, List.take_length] at h6
        have := tm_l5 l (by omega) (by omega) fun q hq => by have := len_le_sum hq; omega
        simp (disch := omega) only [dp, dn, decide_true, decide_false, cond_true, cond_false, Bool.not_true, Bool.not_false, Bool.true_and, Bool.false_and, Bool.and_true, Bool.and_false, Bool.true_or, Bool.false_or, Bool.or_true, Bool.or_false, wr, Option.bind_some, tn_add, tn_add1, tn_sub1, tn_0, tn_1, Int.toNat_natCast, voklaw11_TimerMerges.l4_eq, this]
  intro k
  induction k with
  | zero =>
    intro i n hk hi hi2 hn hs
    have e : i = 100 := by omega
    subst e
    rw [voklaw11_TimerMerges.l1_eq]
    by_cases hlt : 100 < l.length
    · simp (disch := omega) only [dp, dn, decide_true, decide_false, cond_true, cond_false, Bool.not_true, Bool.not_false, Bool.true_and, Bool.false_and, Bool.and_true, Bool.and_false, Bool.true_or, Bool.false_or, Bool.or_true, Bool.or_false, wr, Option.bind_some, tn_add, tn_add1, tn_sub1, tn_0, tn_1, Int.toNat_natCast, voklaw11_TimerMerges.l2_eq]
      exact done 100 n (.inr rfl) hi hi2 hn hs
    · simp (disch := omega) only [dp, dn, decide_true, decide_false, cond_true, cond_false, Bool.not_true, Bool.not_false, Bool.true_and, Bool.false_and, Bool.and_true, Bool.and_false, Bool.true_or, Bool.false_or, Bool.or_true, Bool.or_false, wr, Option.bind_some, tn_add, tn_add1, tn_sub1, tn_0, tn_1, Int.toNat_natCast, voklaw11_TimerMerges.l2_eq]
      exact done 100 n (.inr rfl) hi hi2 hn hs
  | succ k ih =>
    intro i n hk hi hi2 hn hs
    rw [voklaw11_TimerMerges.l1_eq]
    by_cases hlt : i < l.length
    · have e : ((n : Int) + min ((l.getD i []).length : Int) 3001) = ((n + min (l.getD i []).length 3001 : Nat) : Int) := by omega
      have e2 : IntKind.i64.wrap ((n + min (l.getD i []).length 3001 : Nat) : Int) = ((n + min (l.getD i []).length 3001 : Nat) : Int) := wr (by omega) (by omega)
      simp (disch := omega) only [dp, dn, decide_true, decide_false, cond_true, cond_false, Bool.not_true, Bool.not_false, Bool.true_and, Bool.false_and, Bool.and_true, Bool.and_false, Bool.true_or, Bool.false_or, Bool.or_true, Bool.or_false, wr, Option.bind_some, tn_add, tn_add1, tn_sub1, tn_0, tn_1, Int.toNat_natCast, voklaw11_TimerMerges.l2_eq, mm_min, e, e2]
      refine ih (i + 1) (n + min (l.getD i []).length 3001) (by omega) (by omega) (by omega) (by omega) fun h => ?_
      have := hs (by omega)
      rw [take_getD' ([] : List Int) hlt]
      simp only [sumL, List.flatten_append, List.length_append, List.flatten_cons, List.flatten_nil, List.append_nil] at this ⊢
      omega
    · simp (disch := omega) only [dp, dn, decide_true, decide_false, cond_true, cond_false, Bool.not_true, Bool.not_false, Bool.true_and, Bool.false_and, Bool.and_true, Bool.and_false, Bool.true_or, Bool.false_or, Bool.or_true, Bool.or_false, wr, Option.bind_some, tn_add, tn_add1, tn_sub1, tn_0, tn_1, Int.toNat_natCast, voklaw11_TimerMerges.l2_eq]
      exact done i n (.inl (by omega)) hi hi2 hn hs
theorem TimerMerges_pure (l : List (List Int)) : voklaw11_TimerMerges.f l = some (true, ()) := by
  have := tm_l1 l _ 0 0 rfl (Nat.zero_le _) (by omega) (by omega) fun _ => by simp
  rw [Int.natCast_zero] at this
  rw [voklaw11_TimerMerges.f_eq]
  simp (disch := omega) only [dp, dn, decide_true, decide_false, cond_true, cond_false, Bool.not_true, Bool.not_false, Bool.true_and, Bool.false_and, Bool.and_true, Bool.and_false, Bool.true_or, Bool.false_or, Bool.or_true, Bool.or_false, wr, Option.bind_some, tn_add, tn_add1, tn_sub1, tn_0, tn_1, Int.toNat_natCast, first_true, this]
end Go.GV.Ytfddmilldiadeaa
