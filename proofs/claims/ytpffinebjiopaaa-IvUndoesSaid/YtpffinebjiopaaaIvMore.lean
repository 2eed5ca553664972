/-
What the other calls on iv.Set come to; the chapter's examples; what is played. (This session's own text.)
-/
import Derived.Test.YtpffinebjiopaaaIvSet
set_option linter.unusedVariables false
set_option linter.unusedSimpArgs false
namespace Go.GV.Ytpffinebjiopaaa
open Go.Proofs
/-! ### List, Remove, Cut -/
theorem List_spec (l : List Tg) (hl : l.length ≤ 1000000) : iv_Set_List.f (l, ()) = some (l, (l, ()), ()) := by
  have h : slices_Clone_iv_Tagged_iv_Tagged.f l = some (l, ()) := by
    rw [slices_Clone_iv_Tagged_iv_Tagged.f_sem]
    show (bif decide (List.length l ≤ limit) then some (l, ()) else none) = _
    rw [dp (by simp only [limit]; omega), cond_true]
  rw [iv_Set_List.f_eq]
  simp only [h, Option.bind_some, iv_Set_List.l1_eq]
def keepO (o : Int) (t : Tg) : Bool := !decide (t.2.1 = o)
theorem rem_l2 (o : Int) (N : Nat) (hN : N ≤ 1000000) : ∀ (k i j : Nat) (y : List Tg), y.length = N → N - j = k → i < j → j ≤ N →
    slices_DeleteFunc_iv_Tagged_iv_Tagged.l2 i j y o = some (y.take i ++ (y.drop j).filter (keepO o), ((o, ()), ()), ()) := by
  intro k
  induction k with
  | zero =>
    intro i j y hy hk hij hj
    have e : j = y.length := by omega
    subst e
    rw [slices_DeleteFunc_iv_Tagged_iv_Tagged.l2_eq]
    have e2 : (y.take i ++ List.replicate (y.length - i) zT).take i = y.take i := by
      rw [List.take_append_of_le_length (by rw [List.length_take]; omega), List.take_take, Nat.min_self]
    simp (disch := omega) only [dp, dn, decide_true, decide_false, cond_true, cond_false, Bool.not_true, Bool.not_false, Bool.true_and, Bool.false_and, Bool.and_true, Bool.and_false, Bool.true_or, Bool.false_or, Bool.or_true, Bool.or_false, wr, Option.bind_some, tn_add, tn_add1, tn_sub1, tn_0, tn_1, Int.toNat_natCast, List.drop_length, List.filter_nil, List.append_nil, List.length_append, List.length_take, List.length_replicate, e2, slices_DeleteFunc_iv_Tagged_iv_Tagged.l3_eq]
  | succ k ih =>
    intro i j y hy hk hij hj
    have hlt : j < y.length := by omega
    rw [slices_DeleteFunc_iv_Tagged_iv_Tagged.l2_eq, drop_getD' zT hlt]
    simp (disch := omega) only [dp, dn, decide_true, decide_false, cond_true, cond_false, Bool.not_true, Bool.not_false, Bool.true_and, Bool.false_and, Bool.and_true, Bool.and_false, Bool.true_or, Bool.false_or, Bool.or_true, Bool.or_false, wr, Option.bind_some, tn_add, tn_add1, tn_sub1, tn_0, tn_1, Int.toNat_natCast, iv_Set_Remove_1.f_eq, List.filter_cons]
    by_cases ho : (y.getD j zT).2.1 = o
    · have hf : keepO o (y.getD j zT) = false := by unfold keepO; simp (disch := omega) only [dp, dn, decide_true, decide_false, cond_true, cond_false, Bool.not_true, Bool.not_false, Bool.true_and, Bool.false_and, Bool.and_true, Bool.and_false, Bool.true_or, Bool.false_or, Bool.or_true, Bool.or_false, wr, Option.bind_some, tn_add, tn_add1, tn_sub1, tn_0, tn_1, Int.toNat_natCast]
      simp (disch := omega) only [dp, dn, decide_true, decide_false, cond_true, cond_false, Bool.not_true, Bool.not_false, Bool.true_and, Bool.false_and, Bool.and_true, Bool.and_false, Bool.true_or, Bool.false_or, Bool.or_true, Bool.or_false, wr, Option.bind_some, tn_add, tn_add1, tn_sub1, tn_0, tn_1, Int.toNat_natCast, hf, Bool.false_eq_true, if_false]
      exact ih i (j + 1) y hy (by omega) (by omega) (by omega)
    · have hf : keepO o (y.getD j zT) = true := by unfold keepO; simp (disch := omega) only [dp, dn, decide_true, decide_false, cond_true, cond_false, Bool.not_true, Bool.not_false, Bool.true_and, Bool.false_and, Bool.and_true, Bool.and_false, Bool.true_or, Bool.false_or, Bool.or_true, Bool.or_false, wr, Option.bind_some, tn_add, tn_add1, tn_sub1, tn_0, tn_1, Int.toNat_natCast]
      simp (disch := omega) only [dp, dn, decide_true, decide_false, cond_true, cond_false, Bool.not_true, Bool.not_false, Bool.true_and, Bool.false_and, Bool.and_true, Bool.and_false, Bool.true_or, Bool.false_or, Bool.or_true, Bool.or_false, wr, Option.bind_some, tn_add, tn_add1, tn_sub1, tn_0, tn_1, Int.toNat_natCast, hf, if_true]
      have hse : ((((y.getD j zT).1.1, (y.getD j zT).1.2.1, ()), (y.getD j zT).2.1, ()) : Tg) = y.getD j zT := rfl
      rw [hse]
      refine (ih (i + 1) (j + 1) (y.set i (y.getD j zT)) (by simp [hy]) (by omega) (by omega) (by omega)).trans ?_
      rw [take_getD' zT (show i < (y.set i (y.getD j zT)).length by simp; omega), List.drop_set_of_lt (by omega), List.take_set_of_le (Nat.le_refl i)]
      have : (y.set i (y.getD j zT)).getD i zT = y.getD j zT := by rw [getD_eq zT (show i < (y.set i (y.getD j zT)).length by simp; omega)]; simp
      rw [this]
      simp
theorem rem_idx (o : Int) (y : List Tg) (hN : y.length ≤ 1000000) : ∀ (k i : Nat), y.length - i = k → i ≤ y.length →
    (slices_IndexFunc_iv_Tagged_iv_Tagged_1.l1 y y.length i o = some (-1, ((o, ()), ()), ()) ∧ (y.drop i).filter (keepO o) = y.drop i) ∨
    ∃ j : Nat, i ≤ j ∧ j < y.length ∧ slices_IndexFunc_iv_Tagged_iv_Tagged_1.l1 y y.length i o = some ((j : Int), ((o, ()), ()), ()) ∧ (y.getD j zT).2.1 = o ∧ ∀ q, i ≤ q → q < j → (y.getD q zT).2.1 ≠ o := by
  intro k
  induction k with
  | zero =>
    intro i hk hi
    have e : i = y.length := by omega
    subst e
    refine .inl ⟨?_, by simp⟩
    rw [slices_IndexFunc_iv_Tagged_iv_Tagged_1.l1_eq]
    simp (disch := omega) only [dp, dn, decide_true, decide_false, cond_true, cond_false, Bool.not_true, Bool.not_false, Bool.true_and, Bool.false_and, Bool.and_true, Bool.and_false, Bool.true_or, Bool.false_or, Bool.or_true, Bool.or_false, wr, Option.bind_some, tn_add, tn_add1, tn_sub1, tn_0, tn_1, Int.toNat_natCast]
  | succ k ih =>
    intro i hk hi
    have hlt : i < y.length := by omega
    rw [slices_IndexFunc_iv_Tagged_iv_Tagged_1.l1_eq, drop_getD' zT hlt]
    simp (disch := omega) only [dp, dn, decide_true, decide_false, cond_true, cond_false, Bool.not_true, Bool.not_false, Bool.true_and, Bool.false_and, Bool.and_true, Bool.and_false, Bool.true_or, Bool.false_or, Bool.or_true, Bool.or_false, wr, Option.bind_some, tn_add, tn_add1, tn_sub1, tn_0, tn_1, Int.toNat_natCast, iv_Set_Remove_1.f_eq, List.filter_cons]
    by_cases ho : (y.getD i zT).2.1 = o
    · simp (disch := omega) only [dp, dn, decide_true, decide_false, cond_true, cond_false, Bool.not_true, Bool.not_false, Bool.true_and, Bool.false_and, Bool.and_true, Bool.and_false, Bool.true_or, Bool.false_or, Bool.or_true, Bool.or_false, wr, Option.bind_some, tn_add, tn_add1, tn_sub1, tn_0, tn_1, Int.toNat_natCast]
      exact .inr ⟨i, Nat.le_refl _, hlt, rfl, ho, fun q h1 h2 => by omega⟩
    · have hf : keepO o (y.getD i zT) = true := by unfold keepO; simp (disch := omega) only [dp, dn, decide_true, decide_false, cond_true, cond_false, Bool.not_true, Bool.not_false, Bool.true_and, Bool.false_and, Bool.and_true, Bool.and_false, Bool.true_or, Bool.false_or, Bool.or_true, Bool.or_false, wr, Option.bind_some, tn_add, tn_add1, tn_sub1, tn_0, tn_1, Int.toNat_natCast]
      simp (disch := omega) only [dp, dn, decide_true, decide_false, cond_true, cond_false, Bool.not_true, Bool.not_false, Bool.true_and, Bool.false_and, Bool.and_true, Bool.and_false, Bool.true_or, Bool.false_or, Bool.or_true, Bool.or_false, wr, Option.bind_some, tn_add, tn_add1, tn_sub1, tn_0, tn_1, Int.toNat_natCast, hf, if_true]
      rcases ih (i + 1) (by omega) (by omega) with ⟨h1, h2⟩ | ⟨j, h1, h2, h3, h4, h5⟩
      · exact .inl ⟨h1, by rw [h2]⟩
      · refine .inr ⟨j, by omega, h2, h3, h4, fun q h6 h7 => ?_⟩
        by_cases hq : q = i
        · subst hq; exact ho
        · exact h5 q (by omega) h7
theorem filter_take {l : List Tg} {o : Int} {j : Nat} (hj : j ≤ l.length) (h : ∀ q, q < j → (l.getD q zT).2.1 ≠ o) : (l.take j).filter (keepO o) = l.take j := by
  rw [List.filter_eq_self]
  intro t ht
  obtain ⟨q, hq, e⟩ := List.getElem_of_mem ht
  rw [List.length_take] at hq
  rw [List.getElem_take] at e
  have := h q (by omega)
  rw [getD_eq zT (by omega), e] at this
  unfold keepO
  rw [dn this]
  rfl
theorem Remove_spec (l : List Tg) (hl : l.length ≤ 1000000) (o : Int) : iv_Set_Remove.f (l, ()) o = some ((l.length : Int) - ((l.filter (keepO o)).length : Int), (l.filter (keepO o), ()), ()) := by
  have hd : slices_DeleteFunc_iv_Tagged_iv_Tagged.f l ((o, ()), ()) = some (l.filter (keepO o), ((o, ()), ()), ()) := by
    rw [slices_DeleteFunc_iv_Tagged_iv_Tagged.f_eq, slices_IndexFunc_iv_Tagged_iv_Tagged_1.f_eq]
    rcases rem_idx o l hl _ 0 rfl (Nat.zero_le _) with ⟨h1, h2⟩ | ⟨j, h1, h2, h3, h4, h5⟩
    · rw [show ((0 : Nat) : Int) = 0 from rfl] at h1
      simp only [List.drop_zero] at h2
      simp (disch := omega) only [dp, dn, decide_true, decide_false, cond_true, cond_false, Bool.not_true, Bool.not_false, Bool.true_and, Bool.false_and, Bool.and_true, Bool.and_false, Bool.true_or, Bool.false_or, Bool.or_true, Bool.or_false, wr, Option.bind_some, tn_add, tn_add1, tn_sub1, tn_0, tn_1, Int.toNat_natCast, h1, h2, slices_DeleteFunc_iv_Tagged_iv_Tagged.l1_eq]
    · rw [show ((0 : Nat) : Int) = 0 from rfl] at h3
      simp (disch := omega) only [dp, dn, decide_true, decide_false, cond_true, cond_false, Bool.not_true, Bool.not_false, Bool.true_and, Bool.false_and, Bool.and_true, Bool.and_false, Bool.true_or, Bool.false_or, Bool.or_true, Bool.or_false, wr, Option.bind_some, tn_add, tn_add1, tn_sub1, tn_0, tn_1, Int.toNat_natCast, h3]
      refine (rem_l2 o l.length hl _ j (j + 1) l rfl rfl (by omega) (by omega)).trans ?_
      have hf := filter_take (l := l) (o := o) (by omega) fun q hq => h5 q (Nat.zero_le _) hq
      have hk : keepO o (l.getD j zT) = false := by unfold keepO; simp (disch := omega) only [dp, dn, decide_true, decide_false, cond_true, cond_false, Bool.not_true, Bool.not_false, Bool.true_and, Bool.false_and, Bool.and_true, Bool.and_false, Bool.true_or, Bool.false_or, Bool.or_true, Bool.or_false, wr, Option.bind_some, tn_add, tn_add1, tn_sub1, tn_0, tn_1, Int.toNat_natCast]
      conv => rhs; rw [← List.take_append_drop j l, List.filter_append, hf, drop_getD' zT h2, List.filter_cons, hk]
      rfl
  have hle : (l.filter (keepO o)).length ≤ l.length := List.length_filter_le _ _
  rw [iv_Set_Remove.f_eq]
  simp (disch := omega) only [dp, dn, decide_true, decide_false, cond_true, cond_false, Bool.not_true, Bool.not_false, Bool.true_and, Bool.false_and, Bool.and_true, Bool.and_false, Bool.true_or, Bool.false_or, Bool.or_true, Bool.or_false, wr, Option.bind_some, tn_add, tn_add1, tn_sub1, tn_0, tn_1, Int.toNat_natCast, hd]
def cutL (l : List Tg) (lo hi : Int) : List Sp := l.map fun t => (max t.1.1 lo, min t.1.2.1 hi, ())
theorem cut_l1 (l : List Tg) (hl : l.length ≤ 1000000) (lo hi : Int) : ∀ (k i : Nat) (y : List Sp), l.length - i = k → i ≤ l.length → y.length ≤ i →
    iv_Set_Cut.l1 lo hi l.length i l y = (iv_Norm.f (y ++ cutL (l.drop i) lo hi)).bind fun t => some (t.1, (l, ()), ()) := by
  have hlim : limit = 17179869184 := rfl
  intro k
  induction k with
  | zero =>
    intro i y hk hi' hy
    have e : i = l.length := by omega
    subst e
    rw [iv_Set_Cut.l1_eq]
    simp (disch := omega) only [dp, dn, decide_true, decide_false, cond_true, cond_false, Bool.not_true, Bool.not_false, Bool.true_and, Bool.false_and, Bool.and_true, Bool.and_false, Bool.true_or, Bool.false_or, Bool.or_true, Bool.or_false, wr, Option.bind_some, tn_add, tn_add1, tn_sub1, tn_0, tn_1, Int.toNat_natCast, List.drop_length, cutL, List.map_nil, List.append_nil]
  | succ k ih =>
    intro i y hk hi' hy
    have hlt : i < l.length := by omega
    rw [iv_Set_Cut.l1_eq, drop_getD' zT hlt]
    simp (disch := omega) only [dp, dn, decide_true, decide_false, cond_true, cond_false, Bool.not_true, Bool.not_false, Bool.true_and, Bool.false_and, Bool.and_true, Bool.and_false, Bool.true_or, Bool.false_or, Bool.or_true, Bool.or_false, wr, Option.bind_some, tn_add, tn_add1, tn_sub1, tn_0, tn_1, Int.toNat_natCast, List.length_singleton, hlim, mm_max, mm_min]
    exact (ih (i + 1) (y ++ [(max (l.getD i zT).1.1 lo, min (l.getD i zT).1.2.1 hi, ())]) (by omega) (by omega) (by simp; omega)).trans (by simp [cutL])
theorem Cut_spec (l : List Tg) (hl : l.length ≤ 1000000) (lo hi : Int) : ∃ r, iv_Set_Cut.f (l, ()) lo hi = some (r, (l, ()), ()) ∧ iv_Norm.f (cutL l lo hi) = some (r, ()) ∧ nrm r ∧ (∀ t, cov r t ↔ (lo ≤ t ∧ t < hi) ∧ ∃ x ∈ l, x.1.1 ≤ t ∧ t < x.1.2.1) ∧ r.length ≤ l.length := by
  obtain ⟨r, h1, h2, h3, h4⟩ := norm_spec (cutL l lo hi) (by simp [cutL]; omega)
  refine ⟨r, ?_, h1, h2, fun t => ?_, by simpa [cutL] using h4⟩
  · rw [iv_Set_Cut.f_eq]
    have := cut_l1 l hl lo hi _ 0 [] rfl (Nat.zero_le _) (Nat.le_refl _)
    rw [show ((0 : Nat) : Int) = 0 from rfl, List.drop_zero, List.nil_append, h1] at this
    exact this
  · rw [h3]
    unfold cov cutL
    constructor
    · rintro ⟨s, hs, h5, h6⟩
      obtain ⟨x, hx, rfl⟩ := List.mem_map.1 hs
      simp only at h5 h6
      exact ⟨⟨by omega, by omega⟩, x, hx, by omega, by omega⟩
    · rintro ⟨⟨h5, h6⟩, x, hx, h7, h8⟩
      exact ⟨_, List.mem_map.2 ⟨x, hx, rfl⟩, by show max x.1.1 lo ≤ t; omega, by show t < min x.1.2.1 hi; omega⟩
theorem New_eq : iv_New.f = some (([], ()), ()) := by rw [iv_New.f_eq, iv_New.l1_eq]
/-! ### The chapter's examples -/
theorem norm_is {m n : List Sp} (hm : m.length ≤ 1000000) (hn : nrm n) (h : ∀ t, cov n t ↔ cov m t) : iv_Norm.f m = some (n, ()) := by
  obtain ⟨r, h1, h2, h3, _⟩ := norm_spec m hm
  rw [h1, nrm_uniq h2 hn fun t => (h3 t).trans (h t).symm]
theorem nrm_one {a b : Int} (h : a < b) : nrm [(a, b, ())] := ⟨List.pairwise_singleton _ _, fun x hx => by simp at hx; subst hx; exact h⟩
theorem cov_one (a b t : Int) : cov [(a, b, ())] t ↔ a ≤ t ∧ t < b := by simp [cov]
theorem first_true : voklaw10_first.f = some (true, ()) := by
  have n1 : iv_Norm.f [(0, 2, ()), (1, 3, ())] = some ([(0, 3, ())], ()) := norm_is (by simp) (nrm_one (by decide)) fun t => by
    rw [cov_one, cov_cons, cov_one]
    simp only
    omega
  have n2 : iv_Norm.f [(2, 4, ())] = some ([(2, 4, ())], ()) := norm_is (by simp) (nrm_one (by decide)) fun t => Iff.rfl
  obtain ⟨b, r, h1, h2⟩ := Add_spec Inv.nil (by simp) (m := [(0, 2, ()), (1, 3, ())]) (by simp) n1 (nrm_one (by decide)) 1
  obtain ⟨rfl, rfl⟩ : b = true ∧ r = [((0, 3, ()), 1, ())] := by
    cases h2 with
    | no h => rcases h with h | h | h <;> simp [hasO, clashP] at h
    | yes r a1 a2 a3 a4 a5 => exact ⟨rfl, by simpa [tags] using a4⟩
  have hi : Inv [((0, 3, ()), 1, ())] := ⟨List.pairwise_singleton _ _, fun x hx => by simp at hx; subst hx; decide⟩
  obtain ⟨b, r, h3, h4⟩ := Add_spec hi (by simp) (m := [(2, 4, ())]) (by simp) n2 (nrm_one (by decide)) 2
  obtain ⟨rfl, rfl⟩ : b = false ∧ r = [((0, 3, ()), 1, ())] := by
    cases h4 with
    | no h => exact ⟨rfl, rfl⟩
    | yes r a1 a2 a3 a4 a5 => exact absurd a3 (by decide)
  have c1 := Clash_spec hi (by simp) [(2, 4, ())] [(2, 4, ())] (by simp) n2 0
  have c2 := Clash_spec hi (by simp) [(2, 4, ())] [(2, 4, ())] (by simp) n2 1
  have e1 : clashP [((0, 3, ()), 1, ())] [(2, 4, ())] 0 = some ((0, 3, ()), 1, ()) := by decide
  have e2 : clashP [((0, 3, ()), 1, ())] [(2, 4, ())] 1 = none := by decide
  rw [e1] at c1
  rw [e2] at c2
  obtain ⟨q, h5, h6, _⟩ := Cut_spec [((0, 3, ()), 1, ())] (by simp) 1 9
  have n3 : iv_Norm.f (cutL [((0, 3, ()), 1, ())] 1 9) = some ([(1, 3, ())], ()) := norm_is (by simp [cutL]) (nrm_one (by decide)) fun t => by
    show cov [(1, 3, ())] t ↔ cov [(max 0 1, min 3 9, ())] t
    rfl
  obtain rfl : q = [(1, 3, ())] := by
    rw [n3] at h6
    exact (congrArg Prod.fst (Option.some.inj h6)).symm
  rw [voklaw10_first.f_eq, New_eq]
  simp only [Option.bind_some, h1, h3, c1, c2, told, List_spec [((0, 3, ()), 1, ())] (by simp), h5, spans_same [(1, 3, ())] (by simp)]
  decide
/-! ### What is played -/
abbrev Opr := Int × Int × Int × (List Sp) × Unit
abbrev zO : Opr := (0, 0, 0, [], ())
def tot (l : List Opr) : Nat := (l.map fun o => o.2.2.2.1.length).sum
theorem few_l1 (l : List Opr) : ∀ (k i s : Nat), l.length - i = k → i ≤ l.length → i ≤ 200 → s ≤ i * 3001 →
    ∃ b, voklaw10_few.l1 l s i = some (b, ()) ∧ (b = true → l.length ≤ 200 ∧ s + tot (l.drop i) ≤ 3000) := by
  intro k
  induction k with
  | zero =>
    intro i s hk hi h2 hs
    have e : i = l.length := by omega
    subst e
    rw [voklaw10_few.l1_eq]
    simp (disch := omega) only [dp, dn, decide_true, decide_false, cond_true, cond_false, Bool.not_true, Bool.not_false, Bool.true_and, Bool.false_and, Bool.and_true, Bool.and_false, Bool.true_or, Bool.false_or, Bool.or_true, Bool.or_false, wr, Option.bind_some, tn_add, tn_add1, tn_sub1, tn_0, tn_1, Int.toNat_natCast, voklaw10_few.l2_eq, voklaw10_few.l3_eq, List.drop_length]
    refine ⟨_, rfl, fun h => ⟨h2, ?_⟩⟩
    have := of_decide_eq_true h
    simp [tot]; omega
  | succ k ih =>
    intro i s hk hi h2 hs
    have hlt : i < l.length := by omega
    rw [voklaw10_few.l1_eq, drop_getD' zO hlt]
    by_cases hc : i < 200
    · simp (disch := omega) only [dp, dn, decide_true, decide_false, cond_true, cond_false, Bool.not_true, Bool.not_false, Bool.true_and, Bool.false_and, Bool.and_true, Bool.and_false, Bool.true_or, Bool.false_or, Bool.or_true, Bool.or_false, wr, Option.bind_some, tn_add, tn_add1, tn_sub1, tn_0, tn_1, Int.toNat_natCast, voklaw10_few.l2_eq, mm_min]
      have e : (s : Int) + min ((l.getD i zO).2.2.2.1.length : Int) 3001 = ((s + min (l.getD i zO).2.2.2.1.length 3001 : Nat) : Int) := by omega
      rw [e]
      obtain ⟨b, h3, h4⟩ := ih (i + 1) (s + min (l.getD i zO).2.2.2.1.length 3001) (by omega) (by omega) (by omega) (by omega)
      refine ⟨b, ?_, fun h => ?_⟩
      · exact h3
      · obtain ⟨h5, h6⟩ := h4 h
        refine ⟨h5, ?_⟩
        unfold tot at h6 ⊢
        rw [List.map_cons, List.sum_cons]
        omega
    · simp (disch := omega) only [dp, dn, decide_true, decide_false, cond_true, cond_false, Bool.not_true, Bool.not_false, Bool.true_and, Bool.false_and, Bool.and_true, Bool.and_false, Bool.true_or, Bool.false_or, Bool.or_true, Bool.or_false, wr, Option.bind_some, tn_add, tn_add1, tn_sub1, tn_0, tn_1, Int.toNat_natCast, voklaw10_few.l2_eq, voklaw10_few.l3_eq]
      exact ⟨false, rfl, fun h => by cases h⟩
theorem few_spec (l : List Opr) : ∃ b, voklaw10_few.f l = some (b, ()) ∧ (b = true → l.length ≤ 200 ∧ tot l ≤ 3000) := by
  obtain ⟨b, h1, h2⟩ := few_l1 l _ 0 0 rfl (Nat.zero_le _) (Nat.zero_le _) (by omega)
  refine ⟨b, ?_, fun h => ?_⟩
  · rw [voklaw10_few.f_eq]; exact h1
  · have := h2 h
    rw [List.drop_zero] at this
    omega
theorem Added_inv {l r : List Tg} {n : List Sp} {o : Int} {b : Bool} (hi : Inv l) (h : Added l n o b r) : Inv r ∧ r.length ≤ l.length + n.length := by
  cases h with
  | no _ => exact ⟨hi, by omega⟩
  | yes r h1 h2 h3 h4 h5 => exact ⟨h5, by rw [h4.length_eq]; simp [tags]⟩
theorem played_l2 (l : List Opr) (hl : l.length ≤ 200) : ∀ (k i : Nat) (y : List Tg), l.length - i = k → i ≤ l.length → Inv y → y.length + tot (l.drop i) ≤ 3000 →
    ∃ r, voklaw10_played.l2 l i y = some (false, (r, ()), ()) ∧ Inv r ∧ r.length ≤ 3000 := by
  intro k
  induction k with
  | zero =>
    intro i y hk hi hy ht
    have e : i = l.length := by omega
    subst e
    rw [voklaw10_played.l2_eq]
    simp (disch := omega) only [dp, dn, decide_true, decide_false, cond_true, cond_false, Bool.not_true, Bool.not_false, Bool.true_and, Bool.false_and, Bool.and_true, Bool.and_false, Bool.true_or, Bool.false_or, Bool.or_true, Bool.or_false, wr, Option.bind_some, tn_add, tn_add1, tn_sub1, tn_0, tn_1, Int.toNat_natCast, voklaw10_played.l3_eq]
    exact ⟨y, rfl, hy, by omega⟩
  | succ k ih =>
    intro i y hk hi hy ht
    have hlt : i < l.length := by omega
    rw [drop_getD' zO hlt] at ht
    have ht2 : y.length + ((l.getD i zO).2.2.2.1.length + tot (l.drop (i + 1))) ≤ 3000 := by simpa [tot] using ht
    rw [voklaw10_played.l2_eq]
    by_cases hc : (l.getD i zO).1 = 0
    · obtain ⟨n, h1, h2, h3, h4⟩ := norm_spec (l.getD i zO).2.2.2.1 (by omega)
      obtain ⟨b, r, h5, h6⟩ := Add_spec hy (by omega) (by omega) h1 h2 (l.getD i zO).2.1
      obtain ⟨h7, h8⟩ := Added_inv hy h6
      simp (disch := omega) only [dp, dn, decide_true, decide_false, cond_true, cond_false, Bool.not_true, Bool.not_false, Bool.true_and, Bool.false_and, Bool.and_true, Bool.and_false, Bool.true_or, Bool.false_or, Bool.or_true, Bool.or_false, wr, Option.bind_some, tn_add, tn_add1, tn_sub1, tn_0, tn_1, Int.toNat_natCast, h5]
      exact ih (i + 1) r (by omega) (by omega) h7 (by omega)
    · by_cases hc2 : (l.getD i zO).1 = 1
      · simp (disch := omega) only [dp, dn, decide_true, decide_false, cond_true, cond_false, Bool.not_true, Bool.not_false, Bool.true_and, Bool.false_and, Bool.and_true, Bool.and_false, Bool.true_or, Bool.false_or, Bool.or_true, Bool.or_false, wr, Option.bind_some, tn_add, tn_add1, tn_sub1, tn_0, tn_1, Int.toNat_natCast, Remove_spec y (show y.length ≤ 1000000 by omega)]
        exact ih (i + 1) _ (by omega) (by omega) (hy.sub List.filter_sublist) (Nat.le_trans (Nat.add_le_add_right (List.length_filter_le _ _) _) (by omega))
      · simp (disch := omega) only [dp, dn, decide_true, decide_false, cond_true, cond_false, Bool.not_true, Bool.not_false, Bool.true_and, Bool.false_and, Bool.and_true, Bool.and_false, Bool.true_or, Bool.false_or, Bool.or_true, Bool.or_false, wr, Option.bind_some, tn_add, tn_add1, tn_sub1, tn_0, tn_1, Int.toNat_natCast]
        exact ih (i + 1) y (by omega) (by omega) hy (by omega)
/-- What is played: none, or a set. -/
theorem played_spec (l : List Opr) : voklaw10_played.f l = some (true, ([], ()), ()) ∨ ∃ r, voklaw10_played.f l = some (false, (r, ()), ()) ∧ Inv r ∧ r.length ≤ 3000 := by
  obtain ⟨b, h1, h2⟩ := few_spec l
  rw [voklaw10_played.f_eq, New_eq]
  simp only [Option.bind_some, h1]
  cases b with
  | false =>
    left
    rw [Bool.not_false, cond_true, voklaw10_played.l1_eq]
  | true =>
    right
    obtain ⟨h3, h4⟩ := h2 rfl
    have := played_l2 l h3 _ 0 [] rfl (Nat.zero_le _) Inv.nil (by rw [List.drop_zero]; simpa using h4)
    exact this
end Go.GV.Ytpffinebjiopaaa
