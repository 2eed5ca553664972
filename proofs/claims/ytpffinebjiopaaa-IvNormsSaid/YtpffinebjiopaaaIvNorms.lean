/-
IvNorms: any spans put together as the document has it. (This session's own text.)
-/
import Derived.Test.YtpffinebjiopaaaIvMore
set_option linter.unusedVariables false
set_option linter.unusedSimpArgs false
namespace Go.GV.Ytpffinebjiopaaa
open Go.Proofs
theorem IvNorms_pure (l : List Sp) : voklaw10_IvNorms.f l = some (true, ()) := by
  have hlim : limit = 17179869184 := rfl
  rw [voklaw10_IvNorms.f_eq]
  by_cases h : l.length ≤ 3000
  · obtain ⟨r, h1, h2, h3, h4⟩ := norm_spec l (by omega)
    have h5 := norm_same l (by omega)
    rw [h1] at h5
    simp (disch := omega) only [dp, dn, decide_true, decide_false, cond_true, cond_false, Bool.not_true, Bool.not_false, Bool.true_and, Bool.false_and, Bool.and_true, Bool.and_false, Bool.true_or, Bool.false_or, Bool.or_true, Bool.or_false, wr, Option.bind_some, tn_add, tn_add1, tn_sub1, tn_0, tn_1, Int.toNat_natCast, first_true, List.length_nil, List.nil_append, hlim, h1, h5, spans_same r (show r.length ≤ 1000000 by omega), spans_same l (show l.length ≤ 1000000 by omega)]
  · simp (disch := omega) only [dp, dn, decide_true, decide_false, cond_true, cond_false, Bool.not_true, Bool.not_false, Bool.true_and, Bool.false_and, Bool.and_true, Bool.and_false, Bool.true_or, Bool.false_or, Bool.or_true, Bool.or_false, wr, Option.bind_some, tn_add, tn_add1, tn_sub1, tn_0, tn_1, Int.toNat_natCast, first_true]
end Go.GV.Ytpffinebjiopaaa
