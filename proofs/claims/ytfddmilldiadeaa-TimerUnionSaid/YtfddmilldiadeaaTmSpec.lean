/-
The heap's functions, twice (as Go's heap is laid for two callers): what each makes of its list. (TmSpec.lean.in is printed out of TmSpec.head and TmDown.part.)
-/
import Derived.Test.YtfddmilldiadeaaK0
import Derived.Test.YtfddmilldiadeaaTmHeap
set_option linter.unusedVariables false
set_option linter.unusedSimpArgs false
namespace Go.GV.Ytfddmilldiadeaa
open Go.Proofs
theorem Less_spec (l : List It) (i j : Nat) (hi : i < l.length) (hj : j < l.length) : timer_items_Less.f l i j = some (decide (lt (l.getD i ((0, 0, ()) : Int × Int × Unit)) (l.getD j ((0, 0, ()) : Int × Int × Unit))), ()) := by
  rw [timer_items_Less.f_eq]
  simp (disch := omega) only [dp, dn, decide_true, decide_false, cond_true, cond_false, Bool.not_true, Bool.not_false, Bool.true_and, Bool.false_and, Bool.and_true, Bool.and_false, Bool.true_or, Bool.false_or, Bool.or_true, Bool.or_false, wr, Option.bind_some, tn_add, tn_add1, tn_sub1, tn_0, tn_1, Int.toNat_natCast, timer_order.f_eq]
  by_cases c1 : (l.getD i ((0, 0, ()) : Int × Int × Unit)).1 < (l.getD j ((0, 0, ()) : Int × Int × Unit)).1
  · simp (disch := omega) only [dp, dn, decide_true, decide_false, cond_true, cond_false, Bool.not_true, Bool.not_false, Bool.true_and, Bool.false_and, Bool.and_true, Bool.and_false, Bool.true_or, Bool.false_or, Bool.or_true, Bool.or_false, wr, Option.bind_some, tn_add, tn_add1, tn_sub1, tn_0, tn_1, Int.toNat_natCast, decide_eq_true (show lt (l.getD i ((0, 0, ()) : Int × Int × Unit)) (l.getD j ((0, 0, ()) : Int × Int × Unit)) from .inl c1)]
  · by_cases c2 : (l.getD i ((0, 0, ()) : Int × Int × Unit)).1 > (l.getD j ((0, 0, ()) : Int × Int × Unit)).1
    · simp (disch := omega) only [dp, dn, decide_true, decide_false, cond_true, cond_false, Bool.not_true, Bool.not_false, Bool.true_and, Bool.false_and, Bool.and_true, Bool.and_false, Bool.true_or, Bool.false_or, Bool.or_true, Bool.or_false, wr, Option.bind_some, tn_add, tn_add1, tn_sub1, tn_0, tn_1, Int.toNat_natCast, decide_eq_false (show ¬ lt (l.getD i ((0, 0, ()) : Int × Int × Unit)) (l.getD j ((0, 0, ()) : Int × Int × Unit)) by unfold lt; omega)]
    · by_cases c3 : (l.getD i ((0, 0, ()) : Int × Int × Unit)).2.1 < (l.getD j ((0, 0, ()) : Int × Int × Unit)).2.1
      · simp (disch := omega) only [dp, dn, decide_true, decide_false, cond_true, cond_false, Bool.not_true, Bool.not_false, Bool.true_and, Bool.false_and, Bool.and_true, Bool.and_false, Bool.true_or, Bool.false_or, Bool.or_true, Bool.or_false, wr, Option.bind_some, tn_add, tn_add1, tn_sub1, tn_0, tn_1, Int.toNat_natCast, decide_eq_true (show lt (l.getD i ((0, 0, ()) : Int × Int × Unit)) (l.getD j ((0, 0, ()) : Int × Int × Unit)) by unfold lt; omega)]
      · have : ¬ lt (l.getD i ((0, 0, ()) : Int × Int × Unit)) (l.getD j ((0, 0, ()) : Int × Int × Unit)) := by unfold lt; omega
        simp (disch := omega) only [dp, dn, decide_true, decide_false, cond_true, cond_false, Bool.not_true, Bool.not_false, Bool.true_and, Bool.false_and, Bool.and_true, Bool.and_false, Bool.true_or, Bool.false_or, Bool.or_true, Bool.or_false, wr, Option.bind_some, tn_add, tn_add1, tn_sub1, tn_0, tn_1, Int.toNat_natCast, decide_eq_false this]
        by_cases c4 : (l.getD i ((0, 0, ()) : Int × Int × Unit)).2.1 > (l.getD j ((0, 0, ()) : Int × Int × Unit)).2.1
        · simp (disch := omega) only [dp, dn, decide_true, decide_false, cond_true, cond_false, Bool.not_true, Bool.not_false, Bool.true_and, Bool.false_and, Bool.and_true, Bool.and_false, Bool.true_or, Bool.false_or, Bool.or_true, Bool.or_false, wr, Option.bind_some, tn_add, tn_add1, tn_sub1, tn_0, tn_1, Int.toNat_natCast]
        · simp (disch := omega) only [dp, dn, decide_true, decide_false, cond_true, cond_false, Bool.not_true, Bool.not_false, Bool.true_and, Bool.false_and, Bool.and_true, Bool.and_false, Bool.true_or, Bool.false_or, Bool.or_true, Bool.or_false, wr, Option.bind_some, tn_add, tn_add1, tn_sub1, tn_0, tn_1, Int.toNat_natCast]
theorem Swap_spec (l : List It) (i j : Nat) (hi : i < l.length) (hj : j < l.length) : timer_items_Swap.f l i j = some (swp l i j, ()) := by
  rw [timer_items_Swap.f_eq]
  simp (disch := omega) only [dp, dn, decide_true, decide_false, cond_true, cond_false, Bool.not_true, Bool.not_false, Bool.true_and, Bool.false_and, Bool.and_true, Bool.and_false, Bool.true_or, Bool.false_or, Bool.or_true, Bool.or_false, wr, Option.bind_some, tn_add, tn_add1, tn_sub1, tn_0, tn_1, Int.toNat_natCast, List.length_set]
  rfl
theorem down_l1 : ∀ (f n i : Nat) (l : List It) (x1 : Int), n ≤ l.length → l.length ≤ 1000000 → i ≤ l.length → n ≤ i + f →
    ∃ b, heap_down.l1 x1 n i l = some (b, ((sink f n i l, ()), ()), ())
  | 0, n, i, l, x1, hn, hl, hi, hf => by
    have w1 : IntKind.i64.wrap ((IntKind.i64.wrap ((2 : Int) * (i : Int))) + 1) = ((2 * i + 1 : Nat) : Int) := by simp (disch := omega) only [wr]; omega
    rw [heap_down.l1_eq, w1]
    simp (disch := omega) only [dp, dn, decide_true, decide_false, cond_true, cond_false, Bool.not_true, Bool.not_false, Bool.true_and, Bool.false_and, Bool.and_true, Bool.and_false, Bool.true_or, Bool.false_or, Bool.or_true, Bool.or_false, wr, Option.bind_some, tn_add, tn_add1, tn_sub1, tn_0, tn_1, Int.toNat_natCast]
    exact ⟨_, rfl⟩
  | f + 1, n, i, l, x1, hn, hl, hi, hf => by
    have w1 : IntKind.i64.wrap ((IntKind.i64.wrap ((2 : Int) * (i : Int))) + 1) = ((2 * i + 1 : Nat) : Int) := by simp (disch := omega) only [wr]; omega
    have w2 : IntKind.i64.wrap (((2 * i + 1 : Nat) : Int) + 1) = ((2 * i + 2 : Nat) : Int) := by rw [wr (by omega) (by omega)]; omega
    rw [heap_down.l1_eq, w1, w2]
    unfold sink
    by_cases c1 : 2 * i + 1 < n
    · rw [if_pos c1]
      by_cases c2 : 2 * i + 2 < n
      · by_cases c3 : lt (l.getD (2 * i + 2) ((0, 0, ()) : Int × Int × Unit)) (l.getD (2 * i + 1) ((0, 0, ()) : Int × Int × Unit))
        · rw [if_pos ⟨c2, c3⟩]
          by_cases c4 : lt (l.getD (2 * i + 2) ((0, 0, ()) : Int × Int × Unit)) (l.getD i ((0, 0, ()) : Int × Int × Unit))
          · rw [if_pos c4]
            have hL1 := Less_spec l (2 * i + 2) (2 * i + 1) (by omega) (by omega)
            have hL2 := Less_spec l (2 * i + 2) i (by omega) (by omega)
            have hS := Swap_spec l i (2 * i + 2) (by omega) (by omega)
            rw [decide_eq_true c3] at hL1
            rw [decide_eq_true c4] at hL2
            simp (disch := omega) only [dp, dn, decide_true, decide_false, cond_true, cond_false, Bool.not_true, Bool.not_false, Bool.true_and, Bool.false_and, Bool.and_true, Bool.and_false, Bool.true_or, Bool.false_or, Bool.or_true, Bool.or_false, wr, Option.bind_some, tn_add, tn_add1, tn_sub1, tn_0, tn_1, Int.toNat_natCast, hL1, hL2, hS]
            exact down_l1 f n (2 * i + 2) (swp l i (2 * i + 2)) x1 (by rw [swp_len]; exact hn) (by rw [swp_len]; exact hl) (by rw [swp_len]; omega) (by omega)
          · rw [if_neg c4]
            have hL1 := Less_spec l (2 * i + 2) (2 * i + 1) (by omega) (by omega)
            have hL2 := Less_spec l (2 * i + 2) i (by omega) (by omega)
            rw [decide_eq_true c3] at hL1
            rw [decide_eq_false c4] at hL2
            simp (disch := omega) only [dp, dn, decide_true, decide_false, cond_true, cond_false, Bool.not_true, Bool.not_false, Bool.true_and, Bool.false_and, Bool.and_true, Bool.and_false, Bool.true_or, Bool.false_or, Bool.or_true, Bool.or_false, wr, Option.bind_some, tn_add, tn_add1, tn_sub1, tn_0, tn_1, Int.toNat_natCast, hL1, hL2]
            exact ⟨_, rfl⟩
        · rw [if_neg fun h => c3 h.2]
          have hL1 := Less_spec l (2 * i + 2) (2 * i + 1) (by omega) (by omega)
          have hL2 := Less_spec l (2 * i + 1) i (by omega) (by omega)
          rw [decide_eq_false c3] at hL1
          by_cases c4 : lt (l.getD (2 * i + 1) ((0, 0, ()) : Int × Int × Unit)) (l.getD i ((0, 0, ()) : Int × Int × Unit))
          · rw [if_pos c4]
            rw [decide_eq_true c4] at hL2
            have hS := Swap_spec l i (2 * i + 1) (by omega) (by omega)
            simp (disch := omega) only [dp, dn, decide_true, decide_false, cond_true, cond_false, Bool.not_true, Bool.not_false, Bool.true_and, Bool.false_and, Bool.and_true, Bool.and_false, Bool.true_or, Bool.false_or, Bool.or_true, Bool.or_false, wr, Option.bind_some, tn_add, tn_add1, tn_sub1, tn_0, tn_1, Int.toNat_natCast, hL1, hL2, hS]
            exact down_l1 f n (2 * i + 1) (swp l i (2 * i + 1)) x1 (by rw [swp_len]; exact hn) (by rw [swp_len]; exact hl) (by rw [swp_len]; omega) (by omega)
          · rw [if_neg c4]
            rw [decide_eq_false c4] at hL2
            simp (disch := omega) only [dp, dn, decide_true, decide_false, cond_true, cond_false, Bool.not_true, Bool.not_false, Bool.true_and, Bool.false_and, Bool.and_true, Bool.and_false, Bool.true_or, Bool.false_or, Bool.or_true, Bool.or_false, wr, Option.bind_some, tn_add, tn_add1, tn_sub1, tn_0, tn_1, Int.toNat_natCast, hL1, hL2]
            exact ⟨_, rfl⟩
      · rw [if_neg fun h => c2 h.1]
        have hL2 := Less_spec l (2 * i + 1) i (by omega) (by omega)
        by_cases c4 : lt (l.getD (2 * i + 1) ((0, 0, ()) : Int × Int × Unit)) (l.getD i ((0, 0, ()) : Int × Int × Unit))
        · rw [if_pos c4]
          rw [decide_eq_true c4] at hL2
          have hS := Swap_spec l i (2 * i + 1) (by omega) (by omega)
          simp (disch := omega) only [dp, dn, decide_true, decide_false, cond_true, cond_false, Bool.not_true, Bool.not_false, Bool.true_and, Bool.false_and, Bool.and_true, Bool.and_false, Bool.true_or, Bool.false_or, Bool.or_true, Bool.or_false, wr, Option.bind_some, tn_add, tn_add1, tn_sub1, tn_0, tn_1, Int.toNat_natCast, hL2, hS]
          exact down_l1 f n (2 * i + 1) (swp l i (2 * i + 1)) x1 (by rw [swp_len]; exact hn) (by rw [swp_len]; exact hl) (by rw [swp_len]; omega) (by omega)
        · rw [if_neg c4]
          rw [decide_eq_false c4] at hL2
          simp (disch := omega) only [dp, dn, decide_true, decide_false, cond_true, cond_false, Bool.not_true, Bool.not_false, Bool.true_and, Bool.false_and, Bool.and_true, Bool.and_false, Bool.true_or, Bool.false_or, Bool.or_true, Bool.or_false, wr, Option.bind_some, tn_add, tn_add1, tn_sub1, tn_0, tn_1, Int.toNat_natCast, hL2]
          exact ⟨_, rfl⟩
    · rw [if_neg c1]
      simp (disch := omega) only [dp, dn, decide_true, decide_false, cond_true, cond_false, Bool.not_true, Bool.not_false, Bool.true_and, Bool.false_and, Bool.and_true, Bool.and_false, Bool.true_or, Bool.false_or, Bool.or_true, Bool.or_false, wr, Option.bind_some, tn_add, tn_add1, tn_sub1, tn_0, tn_1, Int.toNat_natCast]
      exact ⟨_, rfl⟩
/-- Sinking from k. -/
theorem down_spec (l : List It) (n k : Nat) (hn : n ≤ l.length) (hl : l.length ≤ 1000000) (hk : k ≤ l.length) (h : hp l n (k + 1)) :
    ∃ b r, heap_down.f ((l, ()), ()) k n = some (b, ((r, ()), ()), ()) ∧ Fine l r n ∧ hp r n k := by
  obtain ⟨b, hb⟩ := down_l1 n n k l k hn hl hk (by omega)
  refine ⟨b, _, ?_, sink_spec n n k k l hn (by omega) (Nat.le_refl _) (fun m m0 mn mk mi => h m m0 mn (by omega)) fun m m0 mn mi i0 ik => by omega⟩
  rw [heap_down.f_eq]
  exact hb
theorem init_l1a (n : Nat) : ∀ (k : Nat) (l : List It), l.length = n → n ≤ 1000000 → k ≤ n → hp l n k →
    ∃ r, heap_Init.l1a n ((k : Int) - 1) l = some (((r, ()), ()), ()) ∧ r.Perm l ∧ hp r n 0
  | 0, l, hn, hl, hk, h => by
    rw [heap_Init.l1a_eq]
    simp (disch := omega) only [dp, dn, decide_true, decide_false, cond_true, cond_false, Bool.not_true, Bool.not_false, Bool.true_and, Bool.false_and, Bool.and_true, Bool.and_false, Bool.true_or, Bool.false_or, Bool.or_true, Bool.or_false, wr, Option.bind_some, tn_add, tn_add1, tn_sub1, tn_0, tn_1, Int.toNat_natCast]
    exact ⟨l, rfl, List.Perm.refl _, h⟩
  | k + 1, l, hn, hl, hk, h => by
    obtain ⟨b, r, h1, h2, h3⟩ := down_spec l n k (by omega) (by omega) (by omega) h
    obtain ⟨q, h4, h5, h6⟩ := init_l1a n k r (by rw [h2.len]; exact hn) hl (by omega) h3
    refine ⟨q, ?_, h5.trans h2.perm, h6⟩
    rw [heap_Init.l1a_eq, show (((k + 1 : Nat) : Int) - 1) = (k : Int) by omega]
    simp (disch := omega) only [dp, dn, decide_true, decide_false, cond_true, cond_false, Bool.not_true, Bool.not_false, Bool.true_and, Bool.false_and, Bool.and_true, Bool.and_false, Bool.true_or, Bool.false_or, Bool.or_true, Bool.or_false, wr, Option.bind_some, tn_add, tn_add1, tn_sub1, tn_0, tn_1, Int.toNat_natCast, h1]
    exact h4
theorem Init_spec (l : List It) (hl : l.length ≤ 1000000) : ∃ r, heap_Init.f ((l, ()), ()) = some (((r, ()), ()), ()) ∧ r.Perm l ∧ Hq r := by
  have w1 : IntKind.i64.wrap ((IntKind.i64.wrap (Int.tdiv (l.length : Int) 2)) - 1) = ((l.length / 2 : Nat) : Int) - 1 := by
    rw [show Int.tdiv (l.length : Int) 2 = ((l.length / 2 : Nat) : Int) from rfl]; simp (disch := omega) only [wr]
  have h0 : hp l l.length (l.length / 2) := fun j j0 jn jk => by omega
  have key : ∃ r, heap_Init.l1 l.length (((l.length / 2 : Nat) : Int) - 1) l = some (((r, ()), ()), ()) ∧ r.Perm l ∧ hp r l.length 0 := by
    rw [heap_Init.l1_eq]
    by_cases hk : l.length / 2 = 0
    · rw [hk] at h0 ⊢
      simp (disch := omega) only [dp, dn, decide_true, decide_false, cond_true, cond_false, Bool.not_true, Bool.not_false, Bool.true_and, Bool.false_and, Bool.and_true, Bool.and_false, Bool.true_or, Bool.false_or, Bool.or_true, Bool.or_false, wr, Option.bind_some, tn_add, tn_add1, tn_sub1, tn_0, tn_1, Int.toNat_natCast]
      exact ⟨l, rfl, List.Perm.refl _, h0⟩
    · obtain ⟨k, hk⟩ : ∃ k, l.length / 2 = k + 1 := ⟨l.length / 2 - 1, by omega⟩
      rw [hk] at h0 ⊢
      obtain ⟨b, r, h1, h2, h3⟩ := down_spec l l.length k (by omega) (by omega) (by omega) h0
      obtain ⟨q, h4, h5, h6⟩ := init_l1a l.length k r h2.len hl (by omega) h3
      refine ⟨q, ?_, h5.trans h2.perm, h6⟩
      rw [show (((k + 1 : Nat) : Int) - 1) = (k : Int) by omega]
      simp (disch := omega) only [dp, dn, decide_true, decide_false, cond_true, cond_false, Bool.not_true, Bool.not_false, Bool.true_and, Bool.false_and, Bool.and_true, Bool.and_false, Bool.true_or, Bool.false_or, Bool.or_true, Bool.or_false, wr, Option.bind_some, tn_add, tn_add1, tn_sub1, tn_0, tn_1, Int.toNat_natCast, h1]
      exact h4
  obtain ⟨r, h1, h2, h3⟩ := key
  refine ⟨r, ?_, h2, ?_⟩
  · rw [heap_Init.f_eq]
    simp (disch := omega) only [dp, dn, decide_true, decide_false, cond_true, cond_false, Bool.not_true, Bool.not_false, Bool.true_and, Bool.false_and, Bool.and_true, Bool.and_false, Bool.true_or, Bool.false_or, Bool.or_true, Bool.or_false, wr, Option.bind_some, tn_add, tn_add1, tn_sub1, tn_0, tn_1, Int.toNat_natCast, timer_items_Len.f_eq]
    rw [w1]
    exact h1
  · unfold Hq; rwa [h2.length_eq]
theorem itPop_spec (l : List It) (hl : l.length ≤ 1000000) (n : Nat) (hn : l.length = n + 1) : timer_items_Pop.f (l, ()) = some (l.getD n ((0, 0, ()) : Int × Int × Unit), (l.take n, ()), ()) := by
  have w1 : IntKind.i64.wrap ((l.length : Int) - 1) = (n : Int) := by rw [hn]; exact wr_pred (by omega)
  rw [timer_items_Pop.f_eq]
  simp (disch := omega) only [dp, dn, decide_true, decide_false, cond_true, cond_false, Bool.not_true, Bool.not_false, Bool.true_and, Bool.false_and, Bool.and_true, Bool.and_false, Bool.true_or, Bool.false_or, Bool.or_true, Bool.or_false, wr, Option.bind_some, tn_add, tn_add1, tn_sub1, tn_0, tn_1, Int.toNat_natCast, w1, timer_items_Pop.l1_eq]
theorem Pop_spec (l : List It) (hl : l.length ≤ 1000000) (h0 : 0 < l.length) (h : Hq l) :
    ∃ x r, heap_Pop.f ((l, ()), ()) = some (x, ((r, ()), ()), ()) ∧ l.Perm (l.getD 0 ((0, 0, ()) : Int × Int × Unit) :: r) ∧ Hq r := by
  obtain ⟨n, hn⟩ : ∃ n, l.length = n + 1 := ⟨l.length - 1, by omega⟩
  have w1 : IntKind.i64.wrap ((l.length : Int) - 1) = (n : Int) := by rw [hn]; exact wr_pred (by omega)
  have hS := Swap_spec l 0 n (by omega) (by omega)
  rw [Int.natCast_zero] at hS
  have hp1 : hp (swp l 0 n) n (0 + 1) := fun j j0 jn jk => by
    rw [swp_get l (by omega) (by omega), swp_get l (by omega) (by omega), if_neg (by omega), if_neg (by omega), if_neg (by omega), if_neg (by omega)]
    exact h j j0 (by omega) (Nat.zero_le _)
  obtain ⟨b, r, h1, h2, h3⟩ := down_spec (swp l 0 n) n 0 (by rw [swp_len]; omega) (by rw [swp_len]; exact hl) (Nat.zero_le _) hp1
  rw [Int.natCast_zero] at h1
  have hrl : r.length = n + 1 := by rw [h2.len, swp_len, hn]
  have hP := itPop_spec r (by omega) n hrl
  refine ⟨r.getD n ((0, 0, ()) : Int × Int × Unit), r.take n, ?_, ?_, ?_⟩
  · rw [heap_Pop.f_eq]
    simp (disch := omega) only [dp, dn, decide_true, decide_false, cond_true, cond_false, Bool.not_true, Bool.not_false, Bool.true_and, Bool.false_and, Bool.and_true, Bool.and_false, Bool.true_or, Bool.false_or, Bool.or_true, Bool.or_false, wr, Option.bind_some, tn_add, tn_add1, tn_sub1, tn_0, tn_1, Int.toNat_natCast, timer_items_Len.f_eq, w1, hS, h1, hP]
  · have e1 : r.drop n = [l.getD 0 ((0, 0, ()) : Int × Int × Unit)] := by
      rw [h2.drop, drop_getD' ((0, 0, ()) : Int × Int × Unit) (show n < (swp l 0 n).length by rw [swp_len]; omega), swp_get l (by omega) (by omega), if_pos rfl]
      rw [List.drop_eq_nil_of_le (by rw [swp_len]; omega)]
    have e2 : r.Perm (l.getD 0 ((0, 0, ()) : Int × Int × Unit) :: r.take n) := by
      have : r = r.take n ++ [l.getD 0 ((0, 0, ()) : Int × Int × Unit)] := by rw [← e1, List.take_append_drop]
      conv => lhs; rw [this]
      exact List.perm_append_singleton _ _
    exact ((swp_perm l (by omega) (by omega)).symm.trans h2.perm.symm).trans e2
  · intro j j0 jn jk
    rw [List.length_take] at jn
    have t : ∀ q, q < n → (r.take n).getD q ((0, 0, ()) : Int × Int × Unit) = r.getD q ((0, 0, ()) : Int × Int × Unit) := fun q hq => by rw [getD_eq ((0, 0, ()) : Int × Int × Unit) (by rw [List.length_take]; omega), getD_eq ((0, 0, ()) : Int × Int × Unit) (by omega), List.getElem_take]
    rw [t _ (by omega), t _ (by omega)]
    exact h3 j j0 (by omega) jk
theorem down_1_l1 : ∀ (f n i : Nat) (l : List It) (x1 : Int), n ≤ l.length → l.length ≤ 1000000 → i ≤ l.length → n ≤ i + f →
    ∃ b, heap_down_1.l1 x1 n i l = some (b, ((sink f n i l, ()), ()), ())
  | 0, n, i, l, x1, hn, hl, hi, hf => by
    have w1 : IntKind.i64.wrap ((IntKind.i64.wrap ((2 : Int) * (i : Int))) + 1) = ((2 * i + 1 : Nat) : Int) := by simp (disch := omega) only [wr]; omega
    rw [heap_down_1.l1_eq, w1]
    simp (disch := omega) only [dp, dn, decide_true, decide_false, cond_true, cond_false, Bool.not_true, Bool.not_false, Bool.true_and, Bool.false_and, Bool.and_true, Bool.and_false, Bool.true_or, Bool.false_or, Bool.or_true, Bool.or_false, wr, Option.bind_some, tn_add, tn_add1, tn_sub1, tn_0, tn_1, Int.toNat_natCast]
    exact ⟨_, rfl⟩
  | f + 1, n, i, l, x1, hn, hl, hi, hf => by
    have w1 : IntKind.i64.wrap ((IntKind.i64.wrap ((2 : Int) * (i : Int))) + 1) = ((2 * i + 1 : Nat) : Int) := by simp (disch := omega) only [wr]; omega
    have w2 : IntKind.i64.wrap (((2 * i + 1 : Nat) : Int) + 1) = ((2 * i + 2 : Nat) : Int) := by rw [wr (by omega) (by omega)]; omega
    rw [heap_down_1.l1_eq, w1, w2]
    unfold sink
    by_cases c1 : 2 * i + 1 < n
    · rw [if_pos c1]
      by_cases c2 : 2 * i + 2 < n
      · by_cases c3 : lt (l.getD (2 * i + 2) ((0, 0, ()) : Int × Int × Unit)) (l.getD (2 * i + 1) ((0, 0, ()) : Int × Int × Unit))
        · rw [if_pos ⟨c2, c3⟩]
          by_cases c4 : lt (l.getD (2 * i + 2) ((0, 0, ()) : Int × Int × Unit)) (l.getD i ((0, 0, ()) : Int × Int × Unit))
          · rw [if_pos c4]
            have hL1 := Less_spec l (2 * i + 2) (2 * i + 1) (by omega) (by omega)
            have hL2 := Less_spec l (2 * i + 2) i (by omega) (by omega)
            have hS := Swap_spec l i (2 * i + 2) (by omega) (by omega)
            rw [decide_eq_true c3] at hL1
            rw [decide_eq_true c4] at hL2
            simp (disch := omega) only [dp, dn, decide_true, decide_false, cond_true, cond_false, Bool.not_true, Bool.not_false, Bool.true_and, Bool.false_and, Bool.and_true, Bool.and_false, Bool.true_or, Bool.false_or, Bool.or_true, Bool.or_false, wr, Option.bind_some, tn_add, tn_add1, tn_sub1, tn_0, tn_1, Int.toNat_natCast, hL1, hL2, hS]
            exact down_1_l1 f n (2 * i + 2) (swp l i (2 * i + 2)) x1 (by rw [swp_len]; exact hn) (by rw [swp_len]; exact hl) (by rw [swp_len]; omega) (by omega)
          · rw [if_neg c4]
            have hL1 := Less_spec l (2 * i + 2) (2 * i + 1) (by omega) (by omega)
            have hL2 := Less_spec l (2 * i + 2) i (by omega) (by omega)
            rw [decide_eq_true c3] at hL1
            rw [decide_eq_false c4] at hL2
            simp (disch := omega) only [dp, dn, decide_true, decide_false, cond_true, cond_false, Bool.not_true, Bool.not_false, Bool.true_and, Bool.false_and, Bool.and_true, Bool.and_false, Bool.true_or, Bool.false_or, Bool.or_true, Bool.or_false, wr, Option.bind_some, tn_add, tn_add1, tn_sub1, tn_0, tn_1, Int.toNat_natCast, hL1, hL2]
            exact ⟨_, rfl⟩
        · rw [if_neg fun h => c3 h.2]
          have hL1 := Less_spec l (2 * i + 2) (2 * i + 1) (by omega) (by omega)
          have hL2 := Less_spec l (2 * i + 1) i (by omega) (by omega)
          rw [decide_eq_false c3] at hL1
          by_cases c4 : lt (l.getD (2 * i + 1) ((0, 0, ()) : Int × Int × Unit)) (l.getD i ((0, 0, ()) : Int × Int × Unit))
          · rw [if_pos c4]
            rw [decide_eq_true c4] at hL2
            have hS := Swap_spec l i (2 * i + 1) (by omega) (by omega)
            simp (disch := omega) only [dp, dn, decide_true, decide_false, cond_true, cond_false, Bool.not_true, Bool.not_false, Bool.true_and, Bool.false_and, Bool.and_true, Bool.and_false, Bool.true_or, Bool.false_or, Bool.or_true, Bool.or_false, wr, Option.bind_some, tn_add, tn_add1, tn_sub1, tn_0, tn_1, Int.toNat_natCast, hL1, hL2, hS]
            exact down_1_l1 f n (2 * i + 1) (swp l i (2 * i + 1)) x1 (by rw [swp_len]; exact hn) (by rw [swp_len]; exact hl) (by rw [swp_len]; omega) (by omega)
          · rw [if_neg c4]
            rw [decide_eq_false c4] at hL2
            simp (disch := omega) only [dp, dn, decide_true, decide_false, cond_true, cond_false, Bool.not_true, Bool.not_false, Bool.true_and, Bool.false_and, Bool.and_true, Bool.and_false, Bool.true_or, Bool.false_or, Bool.or_true, Bool.or_false, wr, Option.bind_some, tn_add, tn_add1, tn_sub1, tn_0, tn_1, Int.toNat_natCast, hL1, hL2]
            exact ⟨_, rfl⟩
      · rw [if_neg fun h => c2 h.1]
        have hL2 := Less_spec l (2 * i + 1) i (by omega) (by omega)
        by_cases c4 : lt (l.getD (2 * i + 1) ((0, 0, ()) : Int × Int × Unit)) (l.getD i ((0, 0, ()) : Int × Int × Unit))
        · rw [if_pos c4]
          rw [decide_eq_true c4] at hL2
          have hS := Swap_spec l i (2 * i + 1) (by omega) (by omega)
          simp (disch := omega) only [dp, dn, decide_true, decide_false, cond_true, cond_false, Bool.not_true, Bool.not_false, Bool.true_and, Bool.false_and, Bool.and_true, Bool.and_false, Bool.true_or, Bool.false_or, Bool.or_true, Bool.or_false, wr, Option.bind_some, tn_add, tn_add1, tn_sub1, tn_0, tn_1, Int.toNat_natCast, hL2, hS]
          exact down_1_l1 f n (2 * i + 1) (swp l i (2 * i + 1)) x1 (by rw [swp_len]; exact hn) (by rw [swp_len]; exact hl) (by rw [swp_len]; omega) (by omega)
        · rw [if_neg c4]
          rw [decide_eq_false c4] at hL2
          simp (disch := omega) only [dp, dn, decide_true, decide_false, cond_true, cond_false, Bool.not_true, Bool.not_false, Bool.true_and, Bool.false_and, Bool.and_true, Bool.and_false, Bool.true_or, Bool.false_or, Bool.or_true, Bool.or_false, wr, Option.bind_some, tn_add, tn_add1, tn_sub1, tn_0, tn_1, Int.toNat_natCast, hL2]
          exact ⟨_, rfl⟩
    · rw [if_neg c1]
      simp (disch := omega) only [dp, dn, decide_true, decide_false, cond_true, cond_false, Bool.not_true, Bool.not_false, Bool.true_and, Bool.false_and, Bool.and_true, Bool.and_false, Bool.true_or, Bool.false_or, Bool.or_true, Bool.or_false, wr, Option.bind_some, tn_add, tn_add1, tn_sub1, tn_0, tn_1, Int.toNat_natCast]
      exact ⟨_, rfl⟩
/-- Sinking from k. -/
theorem down_1_spec (l : List It) (n k : Nat) (hn : n ≤ l.length) (hl : l.length ≤ 1000000) (hk : k ≤ l.length) (h : hp l n (k + 1)) :
    ∃ b r, heap_down_1.f ((l, ()), ()) k n = some (b, ((r, ()), ()), ()) ∧ Fine l r n ∧ hp r n k := by
  obtain ⟨b, hb⟩ := down_1_l1 n n k l k hn hl hk (by omega)
  refine ⟨b, _, ?_, sink_spec n n k k l hn (by omega) (Nat.le_refl _) (fun m m0 mn mk mi => h m m0 mn (by omega)) fun m m0 mn mi i0 ik => by omega⟩
  rw [heap_down_1.f_eq]
  exact hb
theorem init_1_l1a (n : Nat) : ∀ (k : Nat) (l : List It), l.length = n → n ≤ 1000000 → k ≤ n → hp l n k →
    ∃ r, heap_Init_1.l1a n ((k : Int) - 1) l = some (((r, ()), ()), ()) ∧ r.Perm l ∧ hp r n 0
  | 0, l, hn, hl, hk, h => by
    rw [heap_Init_1.l1a_eq]
    simp (disch := omega) only [dp, dn, decide_true, decide_false, cond_true, cond_false, Bool.not_true, Bool.not_false, Bool.true_and, Bool.false_and, Bool.and_true, Bool.and_false, Bool.true_or, Bool.false_or, Bool.or_true, Bool.or_false, wr, Option.bind_some, tn_add, tn_add1, tn_sub1, tn_0, tn_1, Int.toNat_natCast]
    exact ⟨l, rfl, List.Perm.refl _, h⟩
  | k + 1, l, hn, hl, hk, h => by
    obtain ⟨b, r, h1, h2, h3⟩ := down_1_spec l n k (by omega) (by omega) (by omega) h
    obtain ⟨q, h4, h5, h6⟩ := init_1_l1a n k r (by rw [h2.len]; exact hn) hl (by omega) h3
    refine ⟨q, ?_, h5.trans h2.perm, h6⟩
    rw [heap_Init_1.l1a_eq, show (((k + 1 : Nat) : Int) - 1) = (k : Int) by omega]
    simp (disch := omega) only [dp, dn, decide_true, decide_false, cond_true, cond_false, Bool.not_true, Bool.not_false, Bool.true_and, Bool.false_and, Bool.and_true, Bool.and_false, Bool.true_or, Bool.false_or, Bool.or_true, Bool.or_false, wr, Option.bind_some, tn_add, tn_add1, tn_sub1, tn_0, tn_1, Int.toNat_natCast, h1]
    exact h4
theorem Init_1_spec (l : List It) (hl : l.length ≤ 1000000) : ∃ r, heap_Init_1.f ((l, ()), ()) = some (((r, ()), ()), ()) ∧ r.Perm l ∧ Hq r := by
  have w1 : IntKind.i64.wrap ((IntKind.i64.wrap (Int.tdiv (l.length : Int) 2)) - 1) = ((l.length / 2 : Nat) : Int) - 1 := by
    rw [show Int.tdiv (l.length : Int) 2 = ((l.length / 2 : Nat) : Int) from rfl]; simp (disch := omega) only [wr]
  have h0 : hp l l.length (l.length / 2) := fun j j0 jn jk => by omega
  have key : ∃ r, heap_Init_1.l1 l.length (((l.length / 2 : Nat) : Int) - 1) l = some (((r, ()), ()), ()) ∧ r.Perm l ∧ hp r l.length 0 := by
    rw [heap_Init_1.l1_eq]
    by_cases hk : l.length / 2 = 0
    · rw [hk] at h0 ⊢
      simp (disch := omega) only [dp, dn, decide_true, decide_false, cond_true, cond_false, Bool.not_true, Bool.not_false, Bool.true_and, Bool.false_and, Bool.and_true, Bool.and_false, Bool.true_or, Bool.false_or, Bool.or_true, Bool.or_false, wr, Option.bind_some, tn_add, tn_add1, tn_sub1, tn_0, tn_1, Int.toNat_natCast]
      exact ⟨l, rfl, List.Perm.refl _, h0⟩
    · obtain ⟨k, hk⟩ : ∃ k, l.length / 2 = k + 1 := ⟨l.length / 2 - 1, by omega⟩
      rw [hk] at h0 ⊢
      obtain ⟨b, r, h1, h2, h3⟩ := down_1_spec l l.length k (by omega) (by omega) (by omega) h0
      obtain ⟨q, h4, h5, h6⟩ := init_1_l1a l.length k r h2.len hl (by omega) h3
      refine ⟨q, ?_, h5.trans h2.perm, h6⟩
      rw [show (((k + 1 : Nat) : Int) - 1) = (k : Int) by omega]
      simp (disch := omega) only [dp, dn, decide_true, decide_false, cond_true, cond_false, Bool.not_true, Bool.not_false, Bool.true_and, Bool.false_and, Bool.and_true, Bool.and_false, Bool.true_or, Bool.false_or, Bool.or_true, Bool.or_false, wr, Option.bind_some, tn_add, tn_add1, tn_sub1, tn_0, tn_1, Int.toNat_natCast, h1]
      exact h4
  obtain ⟨r, h1, h2, h3⟩ := key
  refine ⟨r, ?_, h2, ?_⟩
  · rw [heap_Init_1.f_eq]
    simp (disch := omega) only [dp, dn, decide_true, decide_false, cond_true, cond_false, Bool.not_true, Bool.not_false, Bool.true_and, Bool.false_and, Bool.and_true, Bool.and_false, Bool.true_or, Bool.false_or, Bool.or_true, Bool.or_false, wr, Option.bind_some, tn_add, tn_add1, tn_sub1, tn_0, tn_1, Int.toNat_natCast, timer_items_Len.f_eq]
    rw [w1]
    exact h1
  · unfold Hq; rwa [h2.length_eq]
theorem itPop_1_spec (l : List It) (hl : l.length ≤ 1000000) (n : Nat) (hn : l.length = n + 1) : timer_items_Pop_1.f (l, ()) = some (l.getD n ((0, 0, ()) : Int × Int × Unit), (l.take n, ()), ()) := by
  have w1 : IntKind.i64.wrap ((l.length : Int) - 1) = (n : Int) := by rw [hn]; exact wr_pred (by omega)
  rw [timer_items_Pop_1.f_eq]
  simp (disch := omega) only [dp, dn, decide_true, decide_false, cond_true, cond_false, Bool.not_true, Bool.not_false, Bool.true_and, Bool.false_and, Bool.and_true, Bool.and_false, Bool.true_or, Bool.false_or, Bool.or_true, Bool.or_false, wr, Option.bind_some, tn_add, tn_add1, tn_sub1, tn_0, tn_1, Int.toNat_natCast, w1, timer_items_Pop_1.l1_eq]
theorem Pop_1_spec (l : List It) (hl : l.length ≤ 1000000) (h0 : 0 < l.length) (h : Hq l) :
    ∃ x r, heap_Pop_1.f ((l, ()), ()) = some (x, ((r, ()), ()), ()) ∧ l.Perm (l.getD 0 ((0, 0, ()) : Int × Int × Unit) :: r) ∧ Hq r := by
  obtain ⟨n, hn⟩ : ∃ n, l.length = n + 1 := ⟨l.length - 1, by omega⟩
  have w1 : IntKind.i64.wrap ((l.length : Int) - 1) = (n : Int) := by rw [hn]; exact wr_pred (by omega)
  have hS := Swap_spec l 0 n (by omega) (by omega)
  rw [Int.natCast_zero] at hS
  have hp1 : hp (swp l 0 n) n (0 + 1) := fun j j0 jn jk => by
    rw [swp_get l (by omega) (by omega), swp_get l (by omega) (by omega), if_neg (by omega), if_neg (by omega), if_neg (by omega), if_neg (by omega)]
    exact h j j0 (by omega) (Nat.zero_le _)
  obtain ⟨b, r, h1, h2, h3⟩ := down_1_spec (swp l 0 n) n 0 (by rw [swp_len]; omega) (by rw [swp_len]; exact hl) (Nat.zero_le _) hp1
  rw [Int.natCast_zero] at h1
  have hrl : r.length = n + 1 := by rw [h2.len, swp_len, hn]
  have hP := itPop_1_spec r (by omega) n hrl
  refine ⟨r.getD n ((0, 0, ()) : Int × Int × Unit), r.take n, ?_, ?_, ?_⟩
  · rw [heap_Pop_1.f_eq]
    simp (disch := omega) only [dp, dn, decide_true, decide_false, cond_true, cond_false, Bool.not_true, Bool.not_false, Bool.true_and, Bool.false_and, Bool.and_true, Bool.and_false, Bool.true_or, Bool.false_or, Bool.or_true, Bool.or_false, wr, Option.bind_some, tn_add, tn_add1, tn_sub1, tn_0, tn_1, Int.toNat_natCast, timer_items_Len.f_eq, w1, hS, h1, hP]
  · have e1 : r.drop n = [l.getD 0 ((0, 0, ()) : Int × Int × Unit)] := by
      rw [h2.drop, drop_getD' ((0, 0, ()) : Int × Int × Unit) (show n < (swp l 0 n).length by rw [swp_len]; omega), swp_get l (by omega) (by omega), if_pos rfl]
      rw [List.drop_eq_nil_of_le (by rw [swp_len]; omega)]
    have e2 : r.Perm (l.getD 0 ((0, 0, ()) : Int × Int × Unit) :: r.take n) := by
      have : r = r.take n ++ [l.getD 0 ((0, 0, ()) : Int × Int × Unit)] := by rw [← e1, List.take_append_drop]
      conv => lhs; rw [this]
      exact List.perm_append_singleton _ _
    exact ((swp_perm l (by omega) (by omega)).symm.trans h2.perm.symm).trans e2
  · intro j j0 jn jk
    rw [List.length_take] at jn
    have t : ∀ q, q < n → (r.take n).getD q ((0, 0, ()) : Int × Int × Unit) = r.getD q ((0, 0, ()) : Int × Int × Unit) := fun q hq => by rw [getD_eq ((0, 0, ()) : Int × Int × Unit) (by rw [List.length_take]; omega), getD_eq ((0, 0, ()) : Int × Int × Unit) (by omega), List.getElem_take]
    rw [t _ (by omega), t _ (by omega)]
    exact h3 j j0 (by omega) jk
end Go.GV.Ytfddmilldiadeaa
