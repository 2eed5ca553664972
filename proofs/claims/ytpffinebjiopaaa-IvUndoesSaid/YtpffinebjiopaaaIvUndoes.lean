/-
IvUndoes: what is refused changes nothing; what was added and is removed leaves all as it was. (This session's own text.)
-/
import Derived.Test.YtpffinebjiopaaaIvOwners
set_option linter.unusedVariables false
set_option linter.unusedSimpArgs false
namespace Go.GV.Ytpffinebjiopaaa
open Go.Proofs
theorem added_undo {l r : List Tg} {n : List Sp} {o : Int} (hi : Inv l) (hh : hasO l o = false) (hp : r.Perm (l ++ tags n o)) (hr : Inv r) : r.filter (keepO o) = l := by
  have h1 : (l ++ tags n o).filter (keepO o) = l := by
    rw [List.filter_append]
    have e1 : l.filter (keepO o) = l := List.filter_eq_self.2 fun t ht => by
      have : t.2.1 ≠ o := fun e => by
        have : hasO l o = true := (hasO_iff l o).2 ⟨t, ht, e⟩
        rw [hh] at this; cases this
      unfold keepO
      rw [dn this]
      rfl
    have e2 : (tags n o).filter (keepO o) = [] := List.filter_eq_nil_iff.2 fun t ht => by
      unfold tags at ht
      obtain ⟨s, _, rfl⟩ := List.mem_map.1 ht
      simp [keepO]
    rw [e1, e2, List.append_nil]
  have h2 := hp.filter (keepO o)
  rw [h1] at h2
  exact sorted_uniq (fun x : Tg => x.1.1) h2 (hr.sub List.filter_sublist).lt hi.lt
theorem und_l6 (y : List Tg) (hl : y.length ≤ 1000000) : ∀ (k i : Nat), y.length - i = k → i ≤ y.length → voklaw10_IvUndoes.l6 i y y = some (true, ()) := by
  intro k
  induction k with
  | zero =>
    intro i hk hi
    rw [voklaw10_IvUndoes.l6_eq]
    simp (disch := omega) only [dp, dn, decide_true, decide_false, cond_true, cond_false, Bool.not_true, Bool.not_false, Bool.true_and, Bool.false_and, Bool.and_true, Bool.and_false, Bool.true_or, Bool.false_or, Bool.or_true, Bool.or_false, wr, Option.bind_some, tn_add, tn_add1, tn_sub1, tn_0, tn_1, Int.toNat_natCast, first_true]
  | succ k ih =>
    intro i hk hi
    rw [voklaw10_IvUndoes.l6_eq]
    simp (disch := omega) only [dp, dn, decide_true, decide_false, cond_true, cond_false, Bool.not_true, Bool.not_false, Bool.true_and, Bool.false_and, Bool.and_true, Bool.and_false, Bool.true_or, Bool.false_or, Bool.or_true, Bool.or_false, wr, Option.bind_some, tn_add, tn_add1, tn_sub1, tn_0, tn_1, Int.toNat_natCast]
    exact ih (i + 1) (by omega) (by omega)
theorem und_l5 (y : List Tg) (hl : y.length ≤ 1000000) : voklaw10_IvUndoes.l5 y y = some (true, ()) := by
  rw [voklaw10_IvUndoes.l5_eq]
  simp (disch := omega) only [dp, dn, decide_true, decide_false, cond_true, cond_false, Bool.not_true, Bool.not_false, Bool.true_and, Bool.false_and, Bool.and_true, Bool.and_false, Bool.true_or, Bool.false_or, Bool.or_true, Bool.or_false, wr, Option.bind_some, tn_add, tn_add1, tn_sub1, tn_0, tn_1, Int.toNat_natCast, List_spec y hl]
  exact und_l6 y hl _ 0 rfl (Nat.zero_le _)
theorem IvUndoes_pure (l : List Opr) (m : List Sp) (o : Int) : voklaw10_IvUndoes.f l m o = some (true, ()) := by
  rw [voklaw10_IvUndoes.f_eq]
  rcases played_spec l with h | ⟨y, h, h2, h3⟩
  · simp (disch := omega) only [dp, dn, decide_true, decide_false, cond_true, cond_false, Bool.not_true, Bool.not_false, Bool.true_and, Bool.false_and, Bool.and_true, Bool.and_false, Bool.true_or, Bool.false_or, Bool.or_true, Bool.or_false, wr, Option.bind_some, tn_add, tn_add1, tn_sub1, tn_0, tn_1, Int.toNat_natCast, first_true, h, voklaw10_IvUndoes.l1_eq]
  · simp (disch := omega) only [dp, dn, decide_true, decide_false, cond_true, cond_false, Bool.not_true, Bool.not_false, Bool.true_and, Bool.false_and, Bool.and_true, Bool.and_false, Bool.true_or, Bool.false_or, Bool.or_true, Bool.or_false, wr, Option.bind_some, tn_add, tn_add1, tn_sub1, tn_0, tn_1, Int.toNat_natCast, first_true, h, voklaw10_IvUndoes.l1a_eq]
    by_cases hm : m.length ≤ 3000
    · obtain ⟨n, h4, h5, h6, h7⟩ := norm_spec m (by omega)
      have hc := Clash_spec h2 (by omega) m n (by omega) h4 0
      obtain ⟨q, b1, b2, b3⟩ := Owners_spec y (by omega)
      obtain ⟨b, r, h8, h9⟩ := Add_spec h2 (by omega) (m := m) (n := n) (by omega) h4 h5 o
      have hv := vhas_spec q (by omega) o
      have hq : decide (o ∈ q) = hasO y o := by
        cases hh : hasO y o with
        | true => exact decide_eq_true ((b2.2 o).2 ((hasO_iff y o).1 hh))
        | false => exact decide_eq_false fun h => by rw [(hasO_iff y o).2 ((b2.2 o).1 h)] at hh; cases hh
      rw [hq] at hv
      simp (disch := omega) only [dp, dn, decide_true, decide_false, cond_true, cond_false, Bool.not_true, Bool.not_false, Bool.true_and, Bool.false_and, Bool.and_true, Bool.and_false, Bool.true_or, Bool.false_or, Bool.or_true, Bool.or_false, wr, Option.bind_some, tn_add, tn_add1, tn_sub1, tn_0, tn_1, Int.toNat_natCast, List_spec y (show y.length ≤ 1000000 by omega), b1, hc, h8, hv]
      cases h9 with
      | no h10 =>
        have last : voklaw10_IvUndoes.l2 m o false false y y = some (true, ()) := by
          rw [voklaw10_IvUndoes.l2_eq, cond_false, voklaw10_IvUndoes.l3_eq, cond_false, voklaw10_IvUndoes.l4_eq, cond_false]
          exact und_l5 y (by omega)
        by_cases ho : o ≥ 1
        · rw [cd_pos ho]
          rcases h10 with h10 | h10 | h10
          · omega
          · rw [h10]
            exact last
          · cases hh : hasO y o with
            | true => exact last
            | false =>
              rw [Bool.not_false, cond_true]
              cases hcp : clashP y n 0 with
              | none => rw [hcp] at h10; cases h10
              | some t => exact last
        · rw [cd_neg ho]
          exact last
      | yes r c1 c2 c3 c4 c5 =>
        have hu := added_undo h2 c2 c4 c5
        have hrl : r.length = y.length + n.length := by rw [c4.length_eq]; simp [tags]
        have hrem := Remove_spec r (by omega) o
        rw [hu] at hrem
        rw [cd_pos c1, c2, c3]
        show voklaw10_IvUndoes.l2 m o true false r y = _
        have e : ((r.length : Int) - (y.length : Int)) = (n.length : Int) := by omega
        rw [voklaw10_IvUndoes.l2_eq, cond_false, voklaw10_IvUndoes.l3_eq, cond_true]
        simp (disch := omega) only [dp, dn, decide_true, decide_false, cond_true, cond_false, Bool.not_true, Bool.not_false, Bool.true_and, Bool.false_and, Bool.and_true, Bool.and_false, Bool.true_or, Bool.false_or, Bool.or_true, Bool.or_false, wr, Option.bind_some, tn_add, tn_add1, tn_sub1, tn_0, tn_1, Int.toNat_natCast, hrem, h4, e, voklaw10_IvUndoes.l4_eq]
        exact und_l5 y (by omega)
    · simp (disch := omega) only [dp, dn, decide_true, decide_false, cond_true, cond_false, Bool.not_true, Bool.not_false, Bool.true_and, Bool.false_and, Bool.and_true, Bool.and_false, Bool.true_or, Bool.false_or, Bool.or_true, Bool.or_false, wr, Option.bind_some, tn_add, tn_add1, tn_sub1, tn_0, tn_1, Int.toNat_natCast, first_true]
end Go.GV.Ytpffinebjiopaaa
