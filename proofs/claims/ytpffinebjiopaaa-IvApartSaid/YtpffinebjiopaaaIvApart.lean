/-
IvApart: no two spans of a set overlap; those of one owner do not touch; they rise. (This session's own text.)
-/
import Derived.Test.YtpffinebjiopaaaIvMore
set_option linter.unusedVariables false
set_option linter.unusedSimpArgs false
namespace Go.GV.Ytpffinebjiopaaa
open Go.Proofs
theorem apart_l2 (y : List Tg) (hi : Inv y) (hl : y.length ≤ 3000) : ∀ (k i : Nat), y.length - i = k → i ≤ y.length → voklaw10_IvApart.l2 i y = some (true, ()) := by
  intro k
  induction k with
  | zero =>
    intro i hk hi'
    rw [voklaw10_IvApart.l2_eq]
    simp (disch := omega) only [dp, dn, decide_true, decide_false, cond_true, cond_false, Bool.not_true, Bool.not_false, Bool.true_and, Bool.false_and, Bool.and_true, Bool.and_false, Bool.true_or, Bool.false_or, Bool.or_true, Bool.or_false, wr, Option.bind_some, tn_add, tn_add1, tn_sub1, tn_0, tn_1, Int.toNat_natCast, first_true]
  | succ k ih =>
    intro i hk hi'
    have hlt : i < y.length := by omega
    obtain ⟨a1, a2⟩ := hi.ne _ (getD_mem' ((0, 0, ()), 0, ()) hlt)
    rw [voklaw10_IvApart.l2_eq]
    by_cases h0 : i = 0
    · subst h0
      simp (disch := omega) only [dp, dn, decide_true, decide_false, cond_true, cond_false, Bool.not_true, Bool.not_false, Bool.true_and, Bool.false_and, Bool.and_true, Bool.and_false, Bool.true_or, Bool.false_or, Bool.or_true, Bool.or_false, wr, Option.bind_some, tn_add, tn_add1, tn_sub1, tn_0, tn_1, Int.toNat_natCast, voklaw10_IvApart.l3_eq, Int.natCast_zero]
      exact ih 1 (by omega) (by omega)
    · have hp := List.pairwise_iff_getElem.1 hi.pw (i - 1) i (by omega) hlt (by omega)
      rw [← getD_eq ((0, 0, ()), 0, ()) hlt, ← getD_eq ((0, 0, ()), 0, ()) (show i - 1 < y.length by omega)] at hp
      obtain ⟨hp1, hp2⟩ := hp
      by_cases ho : (y.getD i ((0, 0, ()), 0, ())).2.1 = (y.getD (i - 1) ((0, 0, ()), 0, ())).2.1
      · have := hp2 ho.symm
        simp (disch := omega) only [dp, dn, decide_true, decide_false, cond_true, cond_false, Bool.not_true, Bool.not_false, Bool.true_and, Bool.false_and, Bool.and_true, Bool.and_false, Bool.true_or, Bool.false_or, Bool.or_true, Bool.or_false, wr, Option.bind_some, tn_add, tn_add1, tn_sub1, tn_0, tn_1, Int.toNat_natCast, voklaw10_IvApart.l3_eq]
        exact ih (i + 1) (by omega) (by omega)
      · simp (disch := omega) only [dp, dn, decide_true, decide_false, cond_true, cond_false, Bool.not_true, Bool.not_false, Bool.true_and, Bool.false_and, Bool.and_true, Bool.and_false, Bool.true_or, Bool.false_or, Bool.or_true, Bool.or_false, wr, Option.bind_some, tn_add, tn_add1, tn_sub1, tn_0, tn_1, Int.toNat_natCast, voklaw10_IvApart.l3_eq]
        exact ih (i + 1) (by omega) (by omega)
theorem IvApart_pure (l : List Opr) : voklaw10_IvApart.f l = some (true, ()) := by
  rw [voklaw10_IvApart.f_eq]
  rcases played_spec l with h | ⟨r, h, h2, h3⟩
  · simp (disch := omega) only [dp, dn, decide_true, decide_false, cond_true, cond_false, Bool.not_true, Bool.not_false, Bool.true_and, Bool.false_and, Bool.and_true, Bool.and_false, Bool.true_or, Bool.false_or, Bool.or_true, Bool.or_false, wr, Option.bind_some, tn_add, tn_add1, tn_sub1, tn_0, tn_1, Int.toNat_natCast, first_true, h, voklaw10_IvApart.l1_eq]
  · simp (disch := omega) only [dp, dn, decide_true, decide_false, cond_true, cond_false, Bool.not_true, Bool.not_false, Bool.true_and, Bool.false_and, Bool.and_true, Bool.and_false, Bool.true_or, Bool.false_or, Bool.or_true, Bool.or_false, wr, Option.bind_some, tn_add, tn_add1, tn_sub1, tn_0, tn_1, Int.toNat_natCast, first_true, h, voklaw10_IvApart.l1a_eq, List_spec r (show r.length ≤ 1000000 by omega)]
    exact apart_l2 r h2 h3 _ 0 rfl (Nat.zero_le _)
end Go.GV.Ytpffinebjiopaaa
