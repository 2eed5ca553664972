/-
TimerDrops: what is dropped is gone. (This session's own text.)
-/
import Derived.Test.YtfddmilldiadeaaTmQueue
set_option linter.unusedVariables false
set_option linter.unusedSimpArgs false
namespace Go.GV.Ytfddmilldiadeaa
open Go.Proofs
theorem dr_l3 (o : Int) (L : List It) (hL : L.length ≤ 1000) : ∀ (k i q : Nat), L.length - i = k → i ≤ L.length → q ≤ (L.filter (keepI o)).length → (L.filter (keepI o)).drop q = (L.drop i).filter (keepI o) →
    voklaw11_TimerDrops.l3 o L (L.filter (keepI o)) q i = some (true, ()) := by
  have hle : (L.filter (keepI o)).length ≤ L.length := List.length_filter_le _ _
  intro k
  induction k with
  | zero =>
    intro i q hk hi hq h
    have e : i = L.length := by omega
    subst e
    rw [List.drop_length, List.filter_nil] at h
    have := congrArg List.length h
    rw [List.length_drop, List.length_nil] at this
    rw [voklaw11_TimerDrops.l3_eq]
    simp (disch := omega) only [dp, dn, decide_true, decide_false, cond_true, cond_false, Bool.not_true, Bool.not_false, Bool.true_and, Bool.false_and, Bool.and_true, Bool.and_false, Bool.true_or, Bool.false_or, Bool.or_true, Bool.or_false, wr, Option.bind_some, tn_add, tn_add1, tn_sub1, tn_0, tn_1, Int.toNat_natCast, first_true]
  | succ k ih =>
    intro i q hk hi hq h
    have hlt : i < L.length := by omega
    rw [drop_getD' ((0, 0, ()) : Int × Int × Unit) hlt, List.filter_cons] at h
    rw [voklaw11_TimerDrops.l3_eq]
    by_cases ho : (L.getD i ((0, 0, ()) : Int × Int × Unit)).2.1 = o
    · have hf : keepI o (L.getD i ((0, 0, ()) : Int × Int × Unit)) = false := by unfold keepI; simp (disch := omega) only [dp, dn, decide_true, decide_false, cond_true, cond_false, Bool.not_true, Bool.not_false, Bool.true_and, Bool.false_and, Bool.and_true, Bool.and_false, Bool.true_or, Bool.false_or, Bool.or_true, Bool.or_false, wr, Option.bind_some, tn_add, tn_add1, tn_sub1, tn_0, tn_1, Int.toNat_natCast]
      rw [hf] at h
      simp (disch := omega) only [dp, dn, decide_true, decide_false, cond_true, cond_false, Bool.not_true, Bool.not_false, Bool.true_and, Bool.false_and, Bool.and_true, Bool.and_false, Bool.true_or, Bool.false_or, Bool.or_true, Bool.or_false, wr, Option.bind_some, tn_add, tn_add1, tn_sub1, tn_0, tn_1, Int.toNat_natCast]
      exact ih (i + 1) q (by omega) (by omega) hq h
    · have hf : keepI o (L.getD i ((0, 0, ()) : Int × Int × Unit)) = true := by unfold keepI; simp (disch := omega) only [dp, dn, decide_true, decide_false, cond_true, cond_false, Bool.not_true, Bool.not_false, Bool.true_and, Bool.false_and, Bool.and_true, Bool.and_false, Bool.true_or, Bool.false_or, Bool.or_true, Bool.or_false, wr, Option.bind_some, tn_add, tn_add1, tn_sub1, tn_0, tn_1, Int.toNat_natCast]
      rw [hf, if_pos rfl] at h
      have hql : q < (L.filter (keepI o)).length := by
        have := congrArg List.length h
        rw [List.length_drop, List.length_cons] at this
        omega
      rw [drop_getD' ((0, 0, ()) : Int × Int × Unit) hql] at h
      have h1 := (List.cons.inj h).1
      have h2 := (List.cons.inj h).2
      have h3 : decide (((L.filter (keepI o)).getD q ((0, 0, ()) : Int × Int × Unit)).1 = (L.getD i ((0, 0, ()) : Int × Int × Unit)).1) = true := by rw [h1]; exact decide_eq_true rfl
      have h4 : decide (((L.filter (keepI o)).getD q ((0, 0, ()) : Int × Int × Unit)).2.1 = (L.getD i ((0, 0, ()) : Int × Int × Unit)).2.1) = true := by rw [h1]; exact decide_eq_true rfl
      simp (disch := omega) only [dp, dn, decide_true, decide_false, cond_true, cond_false, Bool.not_true, Bool.not_false, Bool.true_and, Bool.false_and, Bool.and_true, Bool.and_false, Bool.true_or, Bool.false_or, Bool.or_true, Bool.or_false, wr, Option.bind_some, tn_add, tn_add1, tn_sub1, tn_0, tn_1, Int.toNat_natCast, h3, h4, voklaw11_TimerDrops.l4_eq]
      exact ih (i + 1) (q + 1) (by omega) (by omega) hql h2
theorem dr_end (o : Int) (y : List It) (hy : y.length ≤ 300) (n : Nat) (hn : n + (y.filter (keepI o)).length = y.length) (l : List (Int × Int × Int × Unit)) (hl : l.length = y.length) :
    voklaw11_TimerDrops.l1 l o n l.length y = some (true, ()) := by
  obtain ⟨L, h1, h2, h3⟩ := List_spec y (by omega)
  obtain ⟨r, h4, h5, h6⟩ := Drop_spec y (by omega) o
  have hle : (y.filter (keepI o)).length ≤ y.length := List.length_filter_le _ _
  have hrl := h5.length_eq
  have hrk : r.filter (keepI o) = r := List.filter_eq_self.2 fun a ha => (List.mem_filter.1 (h5.mem_iff.1 ha)).2
  obtain ⟨s, h7, h8, h9⟩ := Drop_spec r (by omega) o
  rw [hrk] at h8
  have hsl := h8.length_eq
  obtain ⟨M, g1, g2, g3⟩ := List_spec s (by omega)
  have e : M = L.filter (keepI o) := srt_uniq (g2.trans (h8.trans (h5.trans (h2.filter _).symm))) g3 (h3.filter _)
  subst e
  have hLl := h2.length_eq
  have := dr_l3 o L (by omega) _ 0 0 rfl (Nat.zero_le _) (Nat.zero_le _) rfl
  rw [Int.natCast_zero] at this
  have hw : IntKind.i64.wrap ((l.length : Int) - (n : Int)) = (l.length : Int) - (n : Int) := wr (by omega) (by omega)
  rw [voklaw11_TimerDrops.l1_eq]
  simp (disch := omega) only [dp, dn, decide_true, decide_false, cond_true, cond_false, Bool.not_true, Bool.not_false, Bool.true_and, Bool.false_and, Bool.and_true, Bool.and_false, Bool.true_or, Bool.false_or, Bool.or_true, Bool.or_false, wr, Option.bind_some, tn_add, tn_add1, tn_sub1, tn_0, tn_1, Int.toNat_natCast, h1, Copy_spec y (by omega), h4, h7, Len_eq, hw, voklaw11_TimerDrops.l2_eq, g1, this]
theorem dr_l1 (o : Int) (l : List (Int × Int × Int × Unit)) (hl : l.length ≤ 300) : ∀ (k i n : Nat) (y : List It), l.length - i = k → i ≤ l.length → Hq y → y.length = i → n + (y.filter (keepI o)).length = i → voklaw11_TimerDrops.l1 l o n i y = some (true, ()) := by
  intro k
  induction k with
  | zero =>
    intro i n y hk hi hy hyl hn
    have e : i = l.length := by omega
    subst e
    exact dr_end o y (by omega) n (by omega) l (by omega)
  | succ k ih =>
    intro i n y hk hi hy hyl hn
    have hlt : i < l.length := by omega
    obtain ⟨r, h1, h2, h3⟩ := Push_spec y (by omega) hy (l.getD i ((0, 0, 0, ()) : Int × Int × Int × Unit)).2.1 (l.getD i ((0, 0, 0, ()) : Int × Int × Int × Unit)).2.2.1
    have hrl := h2.length_eq
    simp only [List.length_cons] at hrl
    have hfl := (h2.filter (keepI o)).length_eq
    rw [List.filter_cons] at hfl
    rw [voklaw11_TimerDrops.l1_eq]
    by_cases ho : (l.getD i ((0, 0, 0, ()) : Int × Int × Int × Unit)).2.2.1 = o
    · have hf : keepI o ((l.getD i ((0, 0, 0, ()) : Int × Int × Int × Unit)).2.1, (l.getD i ((0, 0, 0, ()) : Int × Int × Int × Unit)).2.2.1, ()) = false := by unfold keepI; simp (disch := omega) only [dp, dn, decide_true, decide_false, cond_true, cond_false, Bool.not_true, Bool.not_false, Bool.true_and, Bool.false_and, Bool.and_true, Bool.and_false, Bool.true_or, Bool.false_or, Bool.or_true, Bool.or_false, wr, Option.bind_some, tn_add, tn_add1, tn_sub1, tn_0, tn_1, Int.toNat_natCast]
      rw [hf] at hfl
      simp only [Bool.false_eq_true, if_false] at hfl
      simp (disch := omega) only [dp, dn, decide_true, decide_false, cond_true, cond_false, Bool.not_true, Bool.not_false, Bool.true_and, Bool.false_and, Bool.and_true, Bool.and_false, Bool.true_or, Bool.false_or, Bool.or_true, Bool.or_false, wr, Option.bind_some, tn_add, tn_add1, tn_sub1, tn_0, tn_1, Int.toNat_natCast, h1]
      exact ih (i + 1) (n + 1) r (by omega) (by omega) h3 (by omega) (by omega)
    · have hf : keepI o ((l.getD i ((0, 0, 0, ()) : Int × Int × Int × Unit)).2.1, (l.getD i ((0, 0, 0, ()) : Int × Int × Int × Unit)).2.2.1, ()) = true := by unfold keepI; simp (disch := omega) only [dp, dn, decide_true, decide_false, cond_true, cond_false, Bool.not_true, Bool.not_false, Bool.true_and, Bool.false_and, Bool.and_true, Bool.and_false, Bool.true_or, Bool.false_or, Bool.or_true, Bool.or_false, wr, Option.bind_some, tn_add, tn_add1, tn_sub1, tn_0, tn_1, Int.toNat_natCast]
      rw [hf, if_pos rfl, List.length_cons] at hfl
      simp (disch := omega) only [dp, dn, decide_true, decide_false, cond_true, cond_false, Bool.not_true, Bool.not_false, Bool.true_and, Bool.false_and, Bool.and_true, Bool.and_false, Bool.true_or, Bool.false_or, Bool.or_true, Bool.or_false, wr, Option.bind_some, tn_add, tn_add1, tn_sub1, tn_0, tn_1, Int.toNat_natCast, h1]
      exact ih (i + 1) n r (by omega) (by omega) h3 (by omega) (by omega)
theorem TimerDrops_pure (l : List (Int × Int × Int × Unit)) (o : Int) : voklaw11_TimerDrops.f l o = some (true, ()) := by
  rw [voklaw11_TimerDrops.f_eq]
  by_cases hl : (l.length : Int) > 300
  · simp (disch := omega) only [dp, dn, decide_true, decide_false, cond_true, cond_false, Bool.not_true, Bool.not_false, Bool.true_and, Bool.false_and, Bool.and_true, Bool.and_false, Bool.true_or, Bool.false_or, Bool.or_true, Bool.or_false, wr, Option.bind_some, tn_add, tn_add1, tn_sub1, tn_0, tn_1, Int.toNat_natCast, first_true, New_eq]
  · have := dr_l1 o l (by omega) _ 0 0 [] rfl (Nat.zero_le _) Hq.nil rfl rfl
    rw [Int.natCast_zero] at this
    simp (disch := omega) only [dp, dn, decide_true, decide_false, cond_true, cond_false, Bool.not_true, Bool.not_false, Bool.true_and, Bool.false_and, Bool.and_true, Bool.and_false, Bool.true_or, Bool.false_or, Bool.or_true, Bool.or_false, wr, Option.bind_some, tn_add, tn_add1, tn_sub1, tn_0, tn_1, Int.toNat_natCast, first_true, New_eq, this]
end Go.GV.Ytfddmilldiadeaa
