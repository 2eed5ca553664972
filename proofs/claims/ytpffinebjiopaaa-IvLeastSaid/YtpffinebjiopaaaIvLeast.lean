/-
IvLeast: a clash tells the span with the least Lo of those that overlap. (This session's own text.)
-/
import Derived.Test.YtpffinebjiopaaaIvClash
set_option linter.unusedVariables false
set_option linter.unusedSimpArgs false
namespace Go.GV.Ytpffinebjiopaaa
open Go.Proofs
theorem least_l3 (but : Int) (n : List Sp) (hn : n.length ≤ 1000000) (y : List Tg) (hl : y.length ≤ 1000000) (i : Nat) (hi : i < y.length) (ok : Bool) (c0 c1 c2 : Int) : ∀ (k j : Nat) (u : Bool), n.length - j = k → j ≤ n.length →
    voklaw10_IvLeast.l3 but ok n i u j c0 c1 c2 y = voklaw10_IvLeast.l3 but ok n i (u || hitN (n.drop j) but (y.getD i ((0, 0, ()), 0, ()))) n.length c0 c1 c2 y := by
  intro k
  induction k with
  | zero =>
    intro j u hk hj
    have e : j = n.length := by omega
    subst e
    simp [hitN]
  | succ k ih =>
    intro j u hk hj
    have hlt : j < n.length := by omega
    have e : hitN (n.drop j) but (y.getD i ((0, 0, ()), 0, ())) = (hit (n.getD j (0, 0, ())) but (y.getD i ((0, 0, ()), 0, ())) || hitN (n.drop (j + 1)) but (y.getD i ((0, 0, ()), 0, ()))) := by
      rw [drop_getD' (0, 0, ()) hlt]; simp [hitN]
    rw [voklaw10_IvLeast.l3_eq, e]
    cases u with
    | true =>
      simp (disch := omega) only [dp, dn, decide_true, decide_false, cond_true, cond_false, Bool.not_true, Bool.not_false, Bool.true_and, Bool.false_and, Bool.and_true, Bool.and_false, Bool.true_or, Bool.false_or, Bool.or_true, Bool.or_false, wr, Option.bind_some, tn_add, tn_add1, tn_sub1, tn_0, tn_1, Int.toNat_natCast, Bool.true_or]
      exact ih (j + 1) true (by omega) (by omega)
    | false =>
      by_cases ho : (y.getD i ((0, 0, ()), 0, ())).2.1 = but
      · have hh : hit (n.getD j (0, 0, ())) but (y.getD i ((0, 0, ()), 0, ())) = false := by unfold hit; simp (disch := omega) only [dp, dn, decide_true, decide_false, cond_true, cond_false, Bool.not_true, Bool.not_false, Bool.true_and, Bool.false_and, Bool.and_true, Bool.and_false, Bool.true_or, Bool.false_or, Bool.or_true, Bool.or_false, wr, Option.bind_some, tn_add, tn_add1, tn_sub1, tn_0, tn_1, Int.toNat_natCast, ne_eq, ho, not_true_eq_false]
        simp (disch := omega) only [dp, dn, decide_true, decide_false, cond_true, cond_false, Bool.not_true, Bool.not_false, Bool.true_and, Bool.false_and, Bool.and_true, Bool.and_false, Bool.true_or, Bool.false_or, Bool.or_true, Bool.or_false, wr, Option.bind_some, tn_add, tn_add1, tn_sub1, tn_0, tn_1, Int.toNat_natCast, hh]
        exact ih (j + 1) false (by omega) (by omega)
      · by_cases hc : (y.getD i ((0, 0, ()), 0, ())).1.1 < (n.getD j (0, 0, ())).2.1
        · have hh : hit (n.getD j (0, 0, ())) but (y.getD i ((0, 0, ()), 0, ())) = decide ((n.getD j (0, 0, ())).1 < (y.getD i ((0, 0, ()), 0, ())).1.2.1) := by unfold hit; simp (disch := omega) only [dp, dn, decide_true, decide_false, cond_true, cond_false, Bool.not_true, Bool.not_false, Bool.true_and, Bool.false_and, Bool.and_true, Bool.and_false, Bool.true_or, Bool.false_or, Bool.or_true, Bool.or_false, wr, Option.bind_some, tn_add, tn_add1, tn_sub1, tn_0, tn_1, Int.toNat_natCast, ne_eq]
          rw [hh]
          simp (disch := omega) only [dp, dn, decide_true, decide_false, cond_true, cond_false, Bool.not_true, Bool.not_false, Bool.true_and, Bool.false_and, Bool.and_true, Bool.and_false, Bool.true_or, Bool.false_or, Bool.or_true, Bool.or_false, wr, Option.bind_some, tn_add, tn_add1, tn_sub1, tn_0, tn_1, Int.toNat_natCast]
          exact ih (j + 1) _ (by omega) (by omega)
        · have hh : hit (n.getD j (0, 0, ())) but (y.getD i ((0, 0, ()), 0, ())) = false := by unfold hit; simp (disch := omega) only [dp, dn, decide_true, decide_false, cond_true, cond_false, Bool.not_true, Bool.not_false, Bool.true_and, Bool.false_and, Bool.and_true, Bool.and_false, Bool.true_or, Bool.false_or, Bool.or_true, Bool.or_false, wr, Option.bind_some, tn_add, tn_add1, tn_sub1, tn_0, tn_1, Int.toNat_natCast, ne_eq]
          simp (disch := omega) only [dp, dn, decide_true, decide_false, cond_true, cond_false, Bool.not_true, Bool.not_false, Bool.true_and, Bool.false_and, Bool.and_true, Bool.and_false, Bool.true_or, Bool.false_or, Bool.or_true, Bool.or_false, wr, Option.bind_some, tn_add, tn_add1, tn_sub1, tn_0, tn_1, Int.toNat_natCast, hh]
          exact ih (j + 1) false (by omega) (by omega)
theorem least_l2 (but : Int) (n : List Sp) (hn : n.length ≤ 1000000) (y : List Tg) (hl : y.length ≤ 1000000) (o : Option Tg) (ho : o = y.find? (hitN n but)) : ∀ (k i : Nat), y.length - i = k → i ≤ y.length → (∀ j, j < i → hitN n but (y.getD j ((0, 0, ()), 0, ())) = false) →
    voklaw10_IvLeast.l2 but (told o).2 n i (told o).1.1.1 (told o).1.1.2.1 (told o).1.2.1 y = some (true, ()) := by
  intro k
  induction k with
  | zero =>
    intro i hk hi h
    have e : i = y.length := by omega
    subst e
    have hnone : o = none := by
      rw [ho, find_drop ((0, 0, ()), 0, ()) hi h, List.drop_length]
      rfl
    rw [voklaw10_IvLeast.l2_eq, hnone]
    simp (disch := omega) only [dp, dn, decide_true, decide_false, cond_true, cond_false, Bool.not_true, Bool.not_false, Bool.true_and, Bool.false_and, Bool.and_true, Bool.and_false, Bool.true_or, Bool.false_or, Bool.or_true, Bool.or_false, wr, Option.bind_some, tn_add, tn_add1, tn_sub1, tn_0, tn_1, Int.toNat_natCast, first_true, told]
  | succ k ih =>
    intro i hk hi h
    have hlt : i < y.length := by omega
    have h3 := least_l3 but n hn y hl i hlt (told o).2 (told o).1.1.1 (told o).1.1.2.1 (told o).1.2.1 _ 0 false rfl (Nat.zero_le _)
    rw [List.drop_zero, Bool.false_or, Int.natCast_zero] at h3
    rw [voklaw10_IvLeast.l2_eq]
    simp (disch := omega) only [dp, dn, decide_true, decide_false, cond_true, cond_false, Bool.not_true, Bool.not_false, Bool.true_and, Bool.false_and, Bool.and_true, Bool.and_false, Bool.true_or, Bool.false_or, Bool.or_true, Bool.or_false, wr, Option.bind_some, tn_add, tn_add1, tn_sub1, tn_0, tn_1, Int.toNat_natCast]
    rw [h3, voklaw10_IvLeast.l3_eq]
    cases hh : hitN n but (y.getD i ((0, 0, ()), 0, ())) with
    | true =>
      have hsome : o = some (y.getD i ((0, 0, ()), 0, ())) := by
        rw [ho, find_drop ((0, 0, ()), 0, ()) hi h, drop_getD' ((0, 0, ()), 0, ()) hlt, List.find?_cons, hh]
      rw [hsome]
      simp (disch := omega) only [dp, dn, decide_true, decide_false, cond_true, cond_false, Bool.not_true, Bool.not_false, Bool.true_and, Bool.false_and, Bool.and_true, Bool.and_false, Bool.true_or, Bool.false_or, Bool.or_true, Bool.or_false, wr, Option.bind_some, tn_add, tn_add1, tn_sub1, tn_0, tn_1, Int.toNat_natCast, first_true, told]
    | false =>
      simp (disch := omega) only [dp, dn, decide_true, decide_false, cond_true, cond_false, Bool.not_true, Bool.not_false, Bool.true_and, Bool.false_and, Bool.and_true, Bool.and_false, Bool.true_or, Bool.false_or, Bool.or_true, Bool.or_false, wr, Option.bind_some, tn_add, tn_add1, tn_sub1, tn_0, tn_1, Int.toNat_natCast]
      refine ih (i + 1) (by omega) (by omega) fun j hj => ?_
      by_cases e : j = i
      · subst e; exact hh
      · exact h j (by omega)
theorem IvLeast_pure (l : List Opr) (m : List Sp) (but : Int) : voklaw10_IvLeast.f l m but = some (true, ()) := by
  rw [voklaw10_IvLeast.f_eq]
  rcases played_spec l with h | ⟨r, h, h2, h3⟩
  · simp (disch := omega) only [dp, dn, decide_true, decide_false, cond_true, cond_false, Bool.not_true, Bool.not_false, Bool.true_and, Bool.false_and, Bool.and_true, Bool.and_false, Bool.true_or, Bool.false_or, Bool.or_true, Bool.or_false, wr, Option.bind_some, tn_add, tn_add1, tn_sub1, tn_0, tn_1, Int.toNat_natCast, first_true, h, voklaw10_IvLeast.l1_eq]
  · simp (disch := omega) only [dp, dn, decide_true, decide_false, cond_true, cond_false, Bool.not_true, Bool.not_false, Bool.true_and, Bool.false_and, Bool.and_true, Bool.and_false, Bool.true_or, Bool.false_or, Bool.or_true, Bool.or_false, wr, Option.bind_some, tn_add, tn_add1, tn_sub1, tn_0, tn_1, Int.toNat_natCast, first_true, h, voklaw10_IvLeast.l1a_eq]
    by_cases hm : m.length ≤ 100
    · obtain ⟨n, h4, h5, h6, h7⟩ := norm_spec m (by omega)
      have hc := Clash_spec h2 (by omega) m n (by omega) h4 but
      simp (disch := omega) only [dp, dn, decide_true, decide_false, cond_true, cond_false, Bool.not_true, Bool.not_false, Bool.true_and, Bool.false_and, Bool.and_true, Bool.and_false, Bool.true_or, Bool.false_or, Bool.or_true, Bool.or_false, wr, Option.bind_some, tn_add, tn_add1, tn_sub1, tn_0, tn_1, Int.toNat_natCast, hc, List_spec r (show r.length ≤ 1000000 by omega), h4]
      exact least_l2 but n (by omega) r (by omega) _ (clash_first h2 h5 but) _ 0 rfl (Nat.zero_le _) fun j hj => by omega
    · simp (disch := omega) only [dp, dn, decide_true, decide_false, cond_true, cond_false, Bool.not_true, Bool.not_false, Bool.true_and, Bool.false_and, Bool.and_true, Bool.and_false, Bool.true_or, Bool.false_or, Bool.or_true, Bool.or_false, wr, Option.bind_some, tn_add, tn_add1, tn_sub1, tn_0, tn_1, Int.toNat_natCast, first_true]
end Go.GV.Ytpffinebjiopaaa
