/-
TimerPlays: any calls. (This session's own text.)
-/
import Derived.Test.YtfddmilldiadeaaTmRef
set_option linter.unusedVariables false
set_option linter.unusedSimpArgs false
namespace Go.GV.Ytfddmilldiadeaa
open Go.Proofs
theorem plays_l2 (l : List (Int × Int × Int × Unit)) (i : Nat) (hi : i < l.length) (hl : l.length ≤ 300) {y L : List It} (h : Like y L) (hy : y.length ≤ 1000) : voklaw11_TimerPlays.l2 l i true y L = voklaw11_TimerPlays.l1a l (i + 1 : Nat) y L := by
  have hs := same_spec h (show y.length ≤ 1000000 by omega)
  rw [voklaw11_TimerPlays.l2_eq]
  simp (disch := omega) only [dp, dn, decide_true, decide_false, cond_true, cond_false, Bool.not_true, Bool.not_false, Bool.true_and, Bool.false_and, Bool.and_true, Bool.and_false, Bool.true_or, Bool.false_or, Bool.or_true, Bool.or_false, wr, Option.bind_some, tn_add, tn_add1, tn_sub1, tn_0, tn_1, Int.toNat_natCast, hs, voklaw11_TimerPlays.l3_eq]
  rfl
theorem plays_l2a (l : List (Int × Int × Int × Unit)) (i : Nat) (hi : i < l.length) (hl : l.length ≤ 300) {y : List It} (h : Like y []) (hy : y.length ≤ 1000) : voklaw11_TimerPlays.l2a l i true y = voklaw11_TimerPlays.l1a l (i + 1 : Nat) y [] := by
  have hs := same_spec h (show y.length ≤ 1000000 by omega)
  rw [voklaw11_TimerPlays.l2a_eq]
  simp (disch := omega) only [dp, dn, decide_true, decide_false, cond_true, cond_false, Bool.not_true, Bool.not_false, Bool.true_and, Bool.false_and, Bool.and_true, Bool.and_false, Bool.true_or, Bool.false_or, Bool.or_true, Bool.or_false, wr, Option.bind_some, tn_add, tn_add1, tn_sub1, tn_0, tn_1, Int.toNat_natCast, hs, voklaw11_TimerPlays.l3_eq]
  rfl
theorem bool_beq_self (b : Bool) : (b == b) = true := by cases b <;> rfl
theorem plays_copy {y L : List It} (h : Like y L) (hy : y.length < 1000) : ∃ r n r', timer_Queue_Copy.f (y, ()) = some ((y, ()), (y, ()), ()) ∧ timer_Queue_Push.f (y, ()) (-9) 9 = some ((r, ()), ()) ∧ timer_Queue_Drop.f (r, ()) 1 = some (n, (r', ()), ()) := by
  obtain ⟨r, h1, h2, h3⟩ := Push_spec y (by omega) h.heap (-9) 9
  obtain ⟨r', h4, h5, h6⟩ := Drop_spec r (by rw [h2.length_eq]; simp; omega) 1
  exact ⟨r, _, r', Copy_spec y (by omega), h1, h4⟩
theorem plays_l1a (l : List (Int × Int × Int × Unit)) (hl : l.length ≤ 300) : ∀ (k i : Nat) (y L : List It), l.length - i = k → i ≤ l.length → y.length ≤ i → Like y L → voklaw11_TimerPlays.l1a l i y L = some (true, ()) := by
  intro k
  induction k with
  | zero =>
    intro i y L hk hi hy h
    rw [voklaw11_TimerPlays.l1a_eq]
    simp (disch := omega) only [dp, dn, decide_true, decide_false, cond_true, cond_false, Bool.not_true, Bool.not_false, Bool.true_and, Bool.false_and, Bool.and_true, Bool.and_false, Bool.true_or, Bool.false_or, Bool.or_true, Bool.or_false, wr, Option.bind_some, tn_add, tn_add1, tn_sub1, tn_0, tn_1, Int.toNat_natCast, first_true]
  | succ k ih =>
    intro i y L hk hi hy h
    have hlt : i < l.length := by omega
    rw [voklaw11_TimerPlays.l1a_eq]
    by_cases c0 : (l.getD i ((0, 0, 0, ()) : Int × Int × Int × Unit)).1 = 0
    · obtain ⟨y', L', h1, h2, h3, h4⟩ := h.push (by omega) (l.getD i ((0, 0, 0, ()) : Int × Int × Int × Unit)).2.1 (l.getD i ((0, 0, 0, ()) : Int × Int × Int × Unit)).2.2.1
      have := plays_l2 l i hlt hl h3 (by omega)
      simp (disch := omega) only [dp, dn, decide_true, decide_false, cond_true, cond_false, Bool.not_true, Bool.not_false, Bool.true_and, Bool.false_and, Bool.and_true, Bool.and_false, Bool.true_or, Bool.false_or, Bool.or_true, Bool.or_false, wr, Option.bind_some, tn_add, tn_add1, tn_sub1, tn_0, tn_1, Int.toNat_natCast, h1, h2, this]
      exact ih (i + 1) y' L' (by omega) (by omega) (by omega) h3
    · by_cases c1 : (l.getD i ((0, 0, 0, ()) : Int × Int × Int × Unit)).1 = 1
      · obtain ⟨x, b, y', L', h1, h2, h3, h4⟩ := h.pop (by omega) (l.getD i ((0, 0, 0, ()) : Int × Int × Int × Unit)).2.1
        have := plays_l2 l i hlt hl h3 (by omega)
        simp (disch := omega) only [dp, dn, decide_true, decide_false, cond_true, cond_false, Bool.not_true, Bool.not_false, Bool.true_and, Bool.false_and, Bool.and_true, Bool.and_false, Bool.true_or, Bool.false_or, Bool.or_true, Bool.or_false, wr, Option.bind_some, tn_add, tn_add1, tn_sub1, tn_0, tn_1, Int.toNat_natCast, h1, h2, bool_beq_self, this]
        exact ih (i + 1) y' L' (by omega) (by omega) (by omega) h3
      · by_cases c2 : (l.getD i ((0, 0, 0, ()) : Int × Int × Int × Unit)).1 = 2
        · obtain ⟨n, y', L', h1, h2, h3, h4⟩ := h.drop (by omega) (l.getD i ((0, 0, 0, ()) : Int × Int × Int × Unit)).2.2.1
          have := plays_l2 l i hlt hl h3 (by omega)
          simp (disch := omega) only [dp, dn, decide_true, decide_false, cond_true, cond_false, Bool.not_true, Bool.not_false, Bool.true_and, Bool.false_and, Bool.and_true, Bool.and_false, Bool.true_or, Bool.false_or, Bool.or_true, Bool.or_false, wr, Option.bind_some, tn_add, tn_add1, tn_sub1, tn_0, tn_1, Int.toNat_natCast, h1, h2, this]
          exact ih (i + 1) y' L' (by omega) (by omega) (by omega) h3
        · obtain ⟨r, n, r', h1, h2, h3⟩ := plays_copy h (by omega)
          have := plays_l2 l i hlt hl h (by omega)
          simp (disch := omega) only [dp, dn, decide_true, decide_false, cond_true, cond_false, Bool.not_true, Bool.not_false, Bool.true_and, Bool.false_and, Bool.and_true, Bool.and_false, Bool.true_or, Bool.false_or, Bool.or_true, Bool.or_false, wr, Option.bind_some, tn_add, tn_add1, tn_sub1, tn_0, tn_1, Int.toNat_natCast, h1, h2, h3, this]
          exact ih (i + 1) y L (by omega) (by omega) (by omega) h
theorem plays_l1 (l : List (Int × Int × Int × Unit)) (hl : l.length ≤ 300) (i : Nat) (hi : i ≤ l.length) (y : List It) (hy : y.length ≤ i) (h : Like y []) : voklaw11_TimerPlays.l1 l i y = some (true, ()) := by
  rw [voklaw11_TimerPlays.l1_eq]
  by_cases hlt : i < l.length
  · by_cases c0 : (l.getD i ((0, 0, 0, ()) : Int × Int × Int × Unit)).1 = 0
    · obtain ⟨y', L', h1, h2, h3, h4⟩ := h.push (by omega) (l.getD i ((0, 0, 0, ()) : Int × Int × Int × Unit)).2.1 (l.getD i ((0, 0, 0, ()) : Int × Int × Int × Unit)).2.2.1
      have := plays_l2 l i hlt hl h3 (by omega)
      simp (disch := omega) only [dp, dn, decide_true, decide_false, cond_true, cond_false, Bool.not_true, Bool.not_false, Bool.true_and, Bool.false_and, Bool.and_true, Bool.and_false, Bool.true_or, Bool.false_or, Bool.or_true, Bool.or_false, wr, Option.bind_some, tn_add, tn_add1, tn_sub1, tn_0, tn_1, Int.toNat_natCast, h1, h2, this]
      exact plays_l1a l hl _ (i + 1) y' L' rfl (by omega) (by omega) h3
    · by_cases c1 : (l.getD i ((0, 0, 0, ()) : Int × Int × Int × Unit)).1 = 1
      · obtain ⟨x, b, y', L', h1, h2, h3, h4⟩ := h.pop (by omega) (l.getD i ((0, 0, 0, ()) : Int × Int × Int × Unit)).2.1
        have := plays_l2 l i hlt hl h3 (by omega)
        simp (disch := omega) only [dp, dn, decide_true, decide_false, cond_true, cond_false, Bool.not_true, Bool.not_false, Bool.true_and, Bool.false_and, Bool.and_true, Bool.and_false, Bool.true_or, Bool.false_or, Bool.or_true, Bool.or_false, wr, Option.bind_some, tn_add, tn_add1, tn_sub1, tn_0, tn_1, Int.toNat_natCast, h1, h2, bool_beq_self, this]
        exact plays_l1a l hl _ (i + 1) y' L' rfl (by omega) (by omega) h3
      · by_cases c2 : (l.getD i ((0, 0, 0, ()) : Int × Int × Int × Unit)).1 = 2
        · obtain ⟨n, y', L', h1, h2, h3, h4⟩ := h.drop (by omega) (l.getD i ((0, 0, 0, ()) : Int × Int × Int × Unit)).2.2.1
          have := plays_l2 l i hlt hl h3 (by omega)
          simp (disch := omega) only [dp, dn, decide_true, decide_false, cond_true, cond_false, Bool.not_true, Bool.not_false, Bool.true_and, Bool.false_and, Bool.and_true, Bool.and_false, Bool.true_or, Bool.false_or, Bool.or_true, Bool.or_false, wr, Option.bind_some, tn_add, tn_add1, tn_sub1, tn_0, tn_1, Int.toNat_natCast, h1, h2, this]
          exact plays_l1a l hl _ (i + 1) y' L' rfl (by omega) (by omega) h3
        · obtain ⟨r, n, r', h1, h2, h3⟩ := plays_copy h (by omega)
          have := plays_l2a l i hlt hl h (by omega)
          simp (disch := omega) only [dp, dn, decide_true, decide_false, cond_true, cond_false, Bool.not_true, Bool.not_false, Bool.true_and, Bool.false_and, Bool.and_true, Bool.and_false, Bool.true_or, Bool.false_or, Bool.or_true, Bool.or_false, wr, Option.bind_some, tn_add, tn_add1, tn_sub1, tn_0, tn_1, Int.toNat_natCast, h1, h2, h3, this]
          exact plays_l1a l hl _ (i + 1) y [] rfl (by omega) (by omega) h
  · simp (disch := omega) only [dp, dn, decide_true, decide_false, cond_true, cond_false, Bool.not_true, Bool.not_false, Bool.true_and, Bool.false_and, Bool.and_true, Bool.and_false, Bool.true_or, Bool.false_or, Bool.or_true, Bool.or_false, wr, Option.bind_some, tn_add, tn_add1, tn_sub1, tn_0, tn_1, Int.toNat_natCast, first_true]
theorem TimerPlays_pure (l : List (Int × Int × Int × Unit)) : voklaw11_TimerPlays.f l = some (true, ()) := by
  rw [voklaw11_TimerPlays.f_eq]
  by_cases hl : (l.length : Int) > 300
  · simp (disch := omega) only [dp, dn, decide_true, decide_false, cond_true, cond_false, Bool.not_true, Bool.not_false, Bool.true_and, Bool.false_and, Bool.and_true, Bool.and_false, Bool.true_or, Bool.false_or, Bool.or_true, Bool.or_false, wr, Option.bind_some, tn_add, tn_add1, tn_sub1, tn_0, tn_1, Int.toNat_natCast, first_true, New_eq]
  · have := plays_l1 l (by omega) 0 (Nat.zero_le _) [] (Nat.le_refl _) Like.nil
    rw [Int.natCast_zero] at this
    simp (disch := omega) only [dp, dn, decide_true, decide_false, cond_true, cond_false, Bool.not_true, Bool.not_false, Bool.true_and, Bool.false_and, Bool.and_true, Bool.and_false, Bool.true_or, Bool.false_or, Bool.or_true, Bool.or_false, wr, Option.bind_some, tn_add, tn_add1, tn_sub1, tn_0, tn_1, Int.toNat_natCast, first_true, New_eq, this]
end Go.GV.Ytfddmilldiadeaa
