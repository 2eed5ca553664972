/-
IvPlays: any calls, copies too: the program's set and the document's answer alike. (This session's own text.)
-/
import Derived.Test.YtpffinebjiopaaaIvRef
set_option linter.unusedVariables false
set_option linter.unusedSimpArgs false
namespace Go.GV.Ytpffinebjiopaaa
open Go.Proofs
theorem Copy_spec (y : List Tg) (hl : y.length ≤ 1000000) : iv_Set_Copy.f (y, ()) = some ((y, ()), (y, ()), ()) := by
  rw [iv_Set_Copy.f_eq]
  simp (disch := omega) only [dp, dn, decide_true, decide_false, cond_true, cond_false, Bool.not_true, Bool.not_false, Bool.true_and, Bool.false_and, Bool.and_true, Bool.and_false, Bool.true_or, Bool.false_or, Bool.or_true, Bool.or_false, wr, Option.bind_some, tn_add, tn_add1, tn_sub1, tn_0, tn_1, Int.toNat_natCast, List_spec y hl, iv_Set_Copy.l1_eq]
theorem plays_l2 (l : List Opr) (i : Nat) (hi : i ≤ 200) (y : List Tg) (hl : y.length ≤ 3000) : voklaw10_IvPlays.l2 l i true y y = voklaw10_IvPlays.l1a l ((i + 1 : Nat) : Int) y y := by
  obtain ⟨q, h1, h2, h3⟩ := Owners_spec y (by omega)
  have h4 := rOwners_spec y (by omega) h2
  rw [voklaw10_IvPlays.l2_eq]
  simp (disch := omega) only [Bool.not_true, cond_false, List_spec y (show y.length ≤ 1000000 by omega), Option.bind_some, tagged_same y (show y.length ≤ 1000000 by omega), h1, h4, ints_same q (show q.length ≤ 1000000 by omega), iv_Set_Len.f_eq, dp, decide_true, Bool.not_true, cond_false, wr, voklaw10_IvPlays.l3_eq]
  rfl
theorem plays_l2a (l : List Opr) (i : Nat) (hi : i ≤ 200) : voklaw10_IvPlays.l2a l i true [] = voklaw10_IvPlays.l1a l ((i + 1 : Nat) : Int) [] [] := by
  obtain ⟨q, h1, h2, h3⟩ := Owners_spec [] (by simp)
  have h4 := rOwners_spec [] (by simp) h2
  have hq : q.length ≤ 0 := h3
  rw [voklaw10_IvPlays.l2a_eq]
  simp (disch := first | omega | simp) only [Bool.not_true, cond_false, List_spec [] (show ([] : List Tg).length ≤ 1000000 by simp), Option.bind_some, tagged_same [] (show ([] : List Tg).length ≤ 1000000 by simp), h1, h4, ints_same q (show q.length ≤ 1000000 by omega), iv_Set_Len.f_eq, dp, decide_true, Bool.not_true, cond_false, wr, voklaw10_IvPlays.l3_eq]
  rfl
/-- One call: the set goes on, and the document's with it. -/
theorem plays_step (l : List Opr) (hl : l.length ≤ 200) (i : Nat) (hi : i < l.length) (y : List Tg) (hy : Inv y) (ht : y.length + (l.getD i (0, 0, 0, [], ())).2.2.2.1.length ≤ 3000) :
    ∃ r, voklaw10_IvPlays.l1a l i y y = voklaw10_IvPlays.l1a l ((i + 1 : Nat) : Int) r r ∧ Inv r ∧ r.length ≤ y.length + (l.getD i (0, 0, 0, [], ())).2.2.2.1.length ∧ (y = [] → voklaw10_IvPlays.l1 l i [] = voklaw10_IvPlays.l1a l ((i + 1 : Nat) : Int) r r) := by
  obtain ⟨n, h1, h2, h3, h4⟩ := norm_spec (l.getD i (0, 0, 0, [], ())).2.2.2.1 (by omega)
  by_cases k0 : (l.getD i (0, 0, 0, [], ())).1 = 0
  · obtain ⟨b, r, h5, h6⟩ := Add_spec hy (by omega) (by omega) h1 h2 (l.getD i (0, 0, 0, [], ())).2.1
    obtain ⟨h7, h8⟩ := Added_inv hy h6
    have h9 := rAdd_same hy (by omega) (by omega) (by omega) h1 h2 h6
    refine ⟨r, ?_, h7, by omega, ?_⟩
    · rw [voklaw10_IvPlays.l1a_eq]
      simp (disch := omega) only [dp, dn, decide_true, decide_false, cond_true, cond_false, Bool.not_true, Bool.not_false, Bool.true_and, Bool.false_and, Bool.and_true, Bool.and_false, Bool.true_or, Bool.false_or, Bool.or_true, Bool.or_false, wr, Option.bind_some, tn_add, tn_add1, tn_sub1, tn_0, tn_1, Int.toNat_natCast, h5, h9, beq_self_eq_true]
      exact plays_l2 l i (by omega) r (by omega)
    · rintro rfl
      rw [voklaw10_IvPlays.l1_eq]
      simp (disch := omega) only [dp, dn, decide_true, decide_false, cond_true, cond_false, Bool.not_true, Bool.not_false, Bool.true_and, Bool.false_and, Bool.and_true, Bool.and_false, Bool.true_or, Bool.false_or, Bool.or_true, Bool.or_false, wr, Option.bind_some, tn_add, tn_add1, tn_sub1, tn_0, tn_1, Int.toNat_natCast, h5, h9, beq_self_eq_true]
      exact plays_l2 l i (by omega) r (by omega)
  · by_cases k1 : (l.getD i (0, 0, 0, [], ())).1 = 1
    · have hf := List.length_filter_le (keepO (l.getD i (0, 0, 0, [], ())).2.1) y
      refine ⟨_, ?_, hy.sub (List.filter_sublist (p := keepO (l.getD i (0, 0, 0, [], ())).2.1)), by omega, ?_⟩
      · rw [voklaw10_IvPlays.l1a_eq]
        simp (disch := omega) only [dp, dn, decide_true, decide_false, cond_true, cond_false, Bool.not_true, Bool.not_false, Bool.true_and, Bool.false_and, Bool.and_true, Bool.and_false, Bool.true_or, Bool.false_or, Bool.or_true, Bool.or_false, wr, Option.bind_some, tn_add, tn_add1, tn_sub1, tn_0, tn_1, Int.toNat_natCast, Remove_spec y (show y.length ≤ 1000000 by omega), rRemove_spec y (show y.length ≤ 1000000 by omega)]
        exact plays_l2 l i (by omega) (y.filter (keepO (l.getD i (0, 0, 0, [], ())).2.1)) (by omega)
      · rintro rfl
        rw [voklaw10_IvPlays.l1_eq]
        simp (disch := omega) only [dp, dn, decide_true, decide_false, cond_true, cond_false, Bool.not_true, Bool.not_false, Bool.true_and, Bool.false_and, Bool.and_true, Bool.and_false, Bool.true_or, Bool.false_or, Bool.or_true, Bool.or_false, wr, Option.bind_some, tn_add, tn_add1, tn_sub1, tn_0, tn_1, Int.toNat_natCast, Remove_spec [] (show ([] : List Tg).length ≤ 1000000 by omega), rRemove_spec [] (show ([] : List Tg).length ≤ 1000000 by omega)]
        exact plays_l2 l i (by omega) [] (by simp)
    · by_cases k2 : (l.getD i (0, 0, 0, [], ())).1 = 2
      · have h5 := Clash_spec hy (by omega) _ n (by omega) h1 (l.getD i (0, 0, 0, [], ())).2.1
        have h6 := rClash_spec hy (by omega) _ n (by omega) (by omega) h2 h1 (l.getD i (0, 0, 0, [], ())).2.1
        refine ⟨y, ?_, hy, by omega, ?_⟩
        · rw [voklaw10_IvPlays.l1a_eq]
          simp (disch := omega) only [dp, dn, decide_true, decide_false, cond_true, cond_false, Bool.not_true, Bool.not_false, Bool.true_and, Bool.false_and, Bool.and_true, Bool.and_false, Bool.true_or, Bool.false_or, Bool.or_true, Bool.or_false, wr, Option.bind_some, tn_add, tn_add1, tn_sub1, tn_0, tn_1, Int.toNat_natCast, h5, h6, beq_self_eq_true]
          exact plays_l2 l i (by omega) y (by omega)
        · rintro rfl
          rw [voklaw10_IvPlays.l1_eq]
          simp (disch := omega) only [dp, dn, decide_true, decide_false, cond_true, cond_false, Bool.not_true, Bool.not_false, Bool.true_and, Bool.false_and, Bool.and_true, Bool.and_false, Bool.true_or, Bool.false_or, Bool.or_true, Bool.or_false, wr, Option.bind_some, tn_add, tn_add1, tn_sub1, tn_0, tn_1, Int.toNat_natCast, h5, h6, beq_self_eq_true]
          exact plays_l2 l i (by omega) [] (by omega)
      · by_cases k3 : (l.getD i (0, 0, 0, [], ())).1 = 3
        · obtain ⟨r, h5, h6, h7, h8, h9⟩ := Cut_spec y (by omega) (l.getD i (0, 0, 0, [], ())).2.1 (l.getD i (0, 0, 0, [], ())).2.2.1
          have h10 := rCut_spec y (by omega) _ _ h6
          refine ⟨y, ?_, hy, by omega, ?_⟩
          · rw [voklaw10_IvPlays.l1a_eq]
            simp (disch := omega) only [dp, dn, decide_true, decide_false, cond_true, cond_false, Bool.not_true, Bool.not_false, Bool.true_and, Bool.false_and, Bool.and_true, Bool.and_false, Bool.true_or, Bool.false_or, Bool.or_true, Bool.or_false, wr, Option.bind_some, tn_add, tn_add1, tn_sub1, tn_0, tn_1, Int.toNat_natCast, h5, h10, spans_same r (show r.length ≤ 1000000 by omega)]
            exact plays_l2 l i (by omega) y (by omega)
          · rintro rfl
            rw [voklaw10_IvPlays.l1_eq]
            simp (disch := omega) only [dp, dn, decide_true, decide_false, cond_true, cond_false, Bool.not_true, Bool.not_false, Bool.true_and, Bool.false_and, Bool.and_true, Bool.and_false, Bool.true_or, Bool.false_or, Bool.or_true, Bool.or_false, wr, Option.bind_some, tn_add, tn_add1, tn_sub1, tn_0, tn_1, Int.toNat_natCast, h5, h10, spans_same r (show r.length ≤ 1000000 by omega)]
            exact plays_l2 l i (by omega) [] (by omega)
        · have hn1 : iv_Norm.f [(-9, -8, ())] = some ([(-9, -8, ())], ()) := norm_is (by simp) (nrm_one (by decide)) fun t => Iff.rfl
          obtain ⟨b, r, h5, h6⟩ := Add_spec hy (by omega) (m := [(-9, -8, ())]) (by simp) hn1 (nrm_one (by decide)) 999
          obtain ⟨h7, h8⟩ := Added_inv hy h6
          have h8' : r.length ≤ y.length + 1 := h8
          refine ⟨y, ?_, hy, by omega, ?_⟩
          · rw [voklaw10_IvPlays.l1a_eq]
            simp (disch := omega) only [dp, dn, decide_true, decide_false, cond_true, cond_false, Bool.not_true, Bool.not_false, Bool.true_and, Bool.false_and, Bool.and_true, Bool.and_false, Bool.true_or, Bool.false_or, Bool.or_true, Bool.or_false, wr, Option.bind_some, tn_add, tn_add1, tn_sub1, tn_0, tn_1, Int.toNat_natCast, Copy_spec y (show y.length ≤ 1000000 by omega), h5, Remove_spec r (show r.length ≤ 1000000 by omega)]
            exact plays_l2 l i (by omega) y (by omega)
          · rintro rfl
            rw [voklaw10_IvPlays.l1_eq]
            simp (disch := omega) only [dp, dn, decide_true, decide_false, cond_true, cond_false, Bool.not_true, Bool.not_false, Bool.true_and, Bool.false_and, Bool.and_true, Bool.and_false, Bool.true_or, Bool.false_or, Bool.or_true, Bool.or_false, wr, Option.bind_some, tn_add, tn_add1, tn_sub1, tn_0, tn_1, Int.toNat_natCast, Copy_spec [] (show ([] : List Tg).length ≤ 1000000 by omega), h5, Remove_spec r (show r.length ≤ 1000000 by omega)]
            exact plays_l2a l i (by omega)
theorem plays_l1a (l : List Opr) (hl : l.length ≤ 200) : ∀ (k i : Nat) (y : List Tg), l.length - i = k → i ≤ l.length → Inv y → y.length + tot (l.drop i) ≤ 3000 → voklaw10_IvPlays.l1a l i y y = some (true, ()) := by
  intro k
  induction k with
  | zero =>
    intro i y hk hi hy ht
    have e : i = l.length := by omega
    subst e
    rw [voklaw10_IvPlays.l1a_eq]
    simp (disch := omega) only [dp, dn, decide_true, decide_false, cond_true, cond_false, Bool.not_true, Bool.not_false, Bool.true_and, Bool.false_and, Bool.and_true, Bool.and_false, Bool.true_or, Bool.false_or, Bool.or_true, Bool.or_false, wr, Option.bind_some, tn_add, tn_add1, tn_sub1, tn_0, tn_1, Int.toNat_natCast, first_true]
  | succ k ih =>
    intro i y hk hi hy ht
    have hlt : i < l.length := by omega
    rw [drop_getD' zO hlt] at ht
    have ht2 : y.length + ((l.getD i (0, 0, 0, [], ())).2.2.2.1.length + tot (l.drop (i + 1))) ≤ 3000 := by simpa [tot] using ht
    obtain ⟨r, h1, h2, h3, _⟩ := plays_step l hl i hlt y hy (by omega)
    rw [h1]
    exact ih (i + 1) r (by omega) (by omega) h2 (by omega)
theorem IvPlays_pure (l : List Opr) : voklaw10_IvPlays.f l = some (true, ()) := by
  obtain ⟨b, h1, h2⟩ := few_spec l
  rw [voklaw10_IvPlays.f_eq]
  simp (disch := omega) only [dp, dn, decide_true, decide_false, cond_true, cond_false, Bool.not_true, Bool.not_false, Bool.true_and, Bool.false_and, Bool.and_true, Bool.and_false, Bool.true_or, Bool.false_or, Bool.or_true, Bool.or_false, wr, Option.bind_some, tn_add, tn_add1, tn_sub1, tn_0, tn_1, Int.toNat_natCast, first_true, New_eq, h1]
  cases b with
  | false => rfl
  | true =>
    obtain ⟨h3, h4⟩ := h2 rfl
    rw [Bool.not_true, cond_false]
    cases l with
    | nil =>
      rw [voklaw10_IvPlays.l1_eq]
      simp (disch := omega) only [dp, dn, decide_true, decide_false, cond_true, cond_false, Bool.not_true, Bool.not_false, Bool.true_and, Bool.false_and, Bool.and_true, Bool.and_false, Bool.true_or, Bool.false_or, Bool.or_true, Bool.or_false, wr, Option.bind_some, tn_add, tn_add1, tn_sub1, tn_0, tn_1, Int.toNat_natCast, first_true, List.length_nil]
    | cons o l =>
      have h5 : (o.2.2.2.1).length + tot l ≤ 3000 := by simpa [tot] using h4
      obtain ⟨r, _, e2, e3, e4⟩ := plays_step (o :: l) h3 0 (by simp) [] Inv.nil (by simp; omega)
      have := e4 rfl
      rw [Int.natCast_zero] at this
      rw [this]
      exact plays_l1a (o :: l) h3 _ 1 r rfl (by simp) e2 (by simp at e3 ⊢; omega)
end Go.GV.Ytpffinebjiopaaa
