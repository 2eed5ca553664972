/-
IvJoins: put together once more, or in another order, or with one of its parts again, spans stay what they are. (This session's own text.)
-/
import Derived.Test.YtpffinebjiopaaaIvMore
set_option linter.unusedVariables false
set_option linter.unusedSimpArgs false
namespace Go.GV.Ytpffinebjiopaaa
open Go.Proofs
theorem joins_l4 (n y0 y1 : List Sp) (hn : nrm n) (hl : n.length ≤ 1000) (h1 : iv_Norm.f n = some (n, ())) (h2 : iv_Norm.f y0 = some (n, ())) (h3 : iv_Norm.f y1 = some (n, ())) : ∀ (k i : Nat), n.length - i = k → i ≤ n.length →
    voklaw10_IvJoins.l4 n i y0 y1 = some (true, ()) := by
  intro k
  induction k with
  | zero =>
    intro i hk hi
    rw [voklaw10_IvJoins.l4_eq]
    simp (disch := omega) only [dp, dn, decide_true, decide_false, cond_true, cond_false, Bool.not_true, Bool.not_false, Bool.true_and, Bool.false_and, Bool.and_true, Bool.and_false, Bool.true_or, Bool.false_or, Bool.or_true, Bool.or_false, wr, Option.bind_some, tn_add, tn_add1, tn_sub1, tn_0, tn_1, Int.toNat_natCast, first_true, h1, h2, h3, spans_same n (show n.length ≤ 1000000 by omega)]
  | succ k ih =>
    intro i hk hi
    have hlt : i < n.length := by omega
    have a1 := hn.2 _ (getD_mem' (0, 0, ()) hlt)
    rw [voklaw10_IvJoins.l4_eq]
    by_cases h0 : i = 0
    · subst h0
      simp (disch := omega) only [dp, dn, decide_true, decide_false, cond_true, cond_false, Bool.not_true, Bool.not_false, Bool.true_and, Bool.false_and, Bool.and_true, Bool.and_false, Bool.true_or, Bool.false_or, Bool.or_true, Bool.or_false, wr, Option.bind_some, tn_add, tn_add1, tn_sub1, tn_0, tn_1, Int.toNat_natCast, voklaw10_IvJoins.l5_eq, Int.natCast_zero]
      exact ih 1 (by omega) (by omega)
    · have hp : (n.getD (i - 1) (0, 0, ())).2.1 < (n.getD i (0, 0, ())).1 := by
        rw [getD_eq _ hlt, getD_eq _ (show i - 1 < n.length by omega)]
        exact List.pairwise_iff_getElem.1 hn.1 (i - 1) i (by omega) hlt (by omega)
      simp (disch := omega) only [dp, dn, decide_true, decide_false, cond_true, cond_false, Bool.not_true, Bool.not_false, Bool.true_and, Bool.false_and, Bool.and_true, Bool.and_false, Bool.true_or, Bool.false_or, Bool.or_true, Bool.or_false, wr, Option.bind_some, tn_add, tn_add1, tn_sub1, tn_0, tn_1, Int.toNat_natCast, voklaw10_IvJoins.l5_eq]
      exact ih (i + 1) (by omega) (by omega)
theorem joins_l1 (l n : List Sp) (a : Int) (hl : l.length ≤ 1000) : ∀ (i : Nat) (y : List Sp), i ≤ l.length → y = (l.drop i).reverse →
    voklaw10_IvJoins.l1 l a n ((i : Int) - 1) y = voklaw10_IvJoins.l1 l a n (-1) l.reverse := by
  have hlim : limit = 17179869184 := rfl
  intro i
  induction i with
  | zero =>
    rintro y _ rfl
    rw [List.drop_zero]
    rfl
  | succ i ih =>
    rintro y hi rfl
    have hlt : i < l.length := by omega
    have e : ((i + 1 : Nat) : Int) - 1 = (i : Int) := by omega
    rw [e, voklaw10_IvJoins.l1_eq]
    simp (disch := omega) only [dp, dn, decide_true, decide_false, cond_true, cond_false, Bool.not_true, Bool.not_false, Bool.true_and, Bool.false_and, Bool.and_true, Bool.and_false, Bool.true_or, Bool.false_or, Bool.or_true, Bool.or_false, wr, Option.bind_some, tn_add, tn_add1, tn_sub1, tn_0, tn_1, Int.toNat_natCast, List.length_singleton, List.length_reverse, List.length_drop, hlim]
    exact ih _ (by omega) (by rw [drop_getD' (0, 0, ()) hlt, List.reverse_cons])
theorem IvJoins_pure (l : List Sp) (a : Int) : voklaw10_IvJoins.f l a = some (true, ()) := by
  have hlim : limit = 17179869184 := rfl
  rw [voklaw10_IvJoins.f_eq]
  by_cases h : l.length ≤ 1000
  · obtain ⟨n, h1, h2, h3, h4⟩ := norm_spec l (by omega)
    have b1 : iv_Norm.f n = some (n, ()) := norm_is (by omega) h2 fun t => Iff.rfl
    have b2 : iv_Norm.f l.reverse = some (n, ()) := norm_is (by simp; omega) h2 fun t => (h3 t).trans (cov_perm l.reverse_perm.symm t)
    have key : ∀ y, iv_Norm.f y = some (n, ()) → voklaw10_IvJoins.l3 n l.reverse y = some (true, ()) := by
      intro y hy
      rw [voklaw10_IvJoins.l3_eq]
      exact joins_l4 n l.reverse y h2 (by omega) b1 b2 hy _ 0 rfl (Nat.zero_le _)
    have key2 : voklaw10_IvJoins.l1 l a n (-1) l.reverse = some (true, ()) := by
      rw [voklaw10_IvJoins.l1_eq]
      by_cases ha : 0 ≤ a
      · obtain ⟨i, rfl⟩ := Int.eq_ofNat_of_zero_le ha
        by_cases hb : i < l.length
        · simp (disch := omega) only [dp, dn, decide_true, decide_false, cond_true, cond_false, Bool.not_true, Bool.not_false, Bool.true_and, Bool.false_and, Bool.and_true, Bool.and_false, Bool.true_or, Bool.false_or, Bool.or_true, Bool.or_false, wr, Option.bind_some, tn_add, tn_add1, tn_sub1, tn_0, tn_1, Int.toNat_natCast, List.length_nil, List.nil_append, hlim, voklaw10_IvJoins.l2_eq, List.length_singleton]
          refine key _ (norm_is (by simp; omega) h2 fun t => ?_)
          have hm := getD_mem' (0, 0, ()) hb
          rw [cov_app]
          constructor
          · exact .inl
          · rintro (h | ⟨s, h, h5⟩)
            · exact h
            · rw [List.mem_singleton] at h
              subst h
              exact (h3 t).2 ⟨_, hm, h5⟩
        · simp (disch := omega) only [dp, dn, decide_true, decide_false, cond_true, cond_false, Bool.not_true, Bool.not_false, Bool.true_and, Bool.false_and, Bool.and_true, Bool.and_false, Bool.true_or, Bool.false_or, Bool.or_true, Bool.or_false, wr, Option.bind_some, tn_add, tn_add1, tn_sub1, tn_0, tn_1, Int.toNat_natCast, List.length_nil, List.nil_append, hlim, voklaw10_IvJoins.l2_eq]
          exact key n b1
      · simp (disch := omega) only [dp, dn, decide_true, decide_false, cond_true, cond_false, Bool.not_true, Bool.not_false, Bool.true_and, Bool.false_and, Bool.and_true, Bool.and_false, Bool.true_or, Bool.false_or, Bool.or_true, Bool.or_false, wr, Option.bind_some, tn_add, tn_add1, tn_sub1, tn_0, tn_1, Int.toNat_natCast, List.length_nil, List.nil_append, hlim, voklaw10_IvJoins.l2_eq]
        exact key n b1
    have e := joins_l1 l n a h l.length [] (Nat.le_refl _) (by simp)
    simp (disch := omega) only [dp, dn, decide_true, decide_false, cond_true, cond_false, Bool.not_true, Bool.not_false, Bool.true_and, Bool.false_and, Bool.and_true, Bool.and_false, Bool.true_or, Bool.false_or, Bool.or_true, Bool.or_false, wr, Option.bind_some, tn_add, tn_add1, tn_sub1, tn_0, tn_1, Int.toNat_natCast, first_true, h1]
    rw [e]
    exact key2
  · simp (disch := omega) only [dp, dn, decide_true, decide_false, cond_true, cond_false, Bool.not_true, Bool.not_false, Bool.true_and, Bool.false_and, Bool.and_true, Bool.and_false, Bool.true_or, Bool.false_or, Bool.or_true, Bool.or_false, wr, Option.bind_some, tn_add, tn_add1, tn_sub1, tn_0, tn_1, Int.toNat_natCast, first_true]
end Go.GV.Ytpffinebjiopaaa
