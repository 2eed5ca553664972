/-
IvCuts: second by second: what is cut is what some span has, within; free of that nothing clashes. (This session's own text.)
-/
import Derived.Test.YtpffinebjiopaaaIvMore
set_option linter.unusedVariables false
set_option linter.unusedSimpArgs false
namespace Go.GV.Ytpffinebjiopaaa
open Go.Proofs
def inT (y : List Tg) (t : Int) : Bool := y.any fun x => decide (x.1.1 ≤ t) && decide (t < x.1.2.1)
def inS (c : List Sp) (t : Int) : Bool := c.any fun x => decide (x.1 ≤ t) && decide (t < x.2.1)
theorem cuts_l4 (a b : Int) (c : List Sp) (t : Int) (y1 y2 : List Tg) (hl : y2.length ≤ 3000) : ∀ (k i : Nat) (u : Bool), y2.length - i = k → i ≤ y2.length →
    voklaw10_IvCuts.l4 a b c t u false i y1 y2 = voklaw10_IvCuts.l5 a b c t (u || inT (y2.drop i) t) false 0 y1 y2 := by
  intro k
  induction k with
  | zero =>
    intro i u hk hi
    have e : i = y2.length := by omega
    subst e
    rw [voklaw10_IvCuts.l4_eq]
    simp (disch := omega) only [dp, dn, decide_true, decide_false, cond_true, cond_false, Bool.not_true, Bool.not_false, Bool.true_and, Bool.false_and, Bool.and_true, Bool.and_false, Bool.true_or, Bool.false_or, Bool.or_true, Bool.or_false, wr, Option.bind_some, tn_add, tn_add1, tn_sub1, tn_0, tn_1, Int.toNat_natCast, List.drop_length, inT, List.any_nil]
  | succ k ih =>
    intro i u hk hi
    have hlt : i < y2.length := by omega
    rw [voklaw10_IvCuts.l4_eq, drop_getD' zT hlt]
    cases u with
    | true =>
      simp (disch := omega) only [dp, dn, decide_true, decide_false, cond_true, cond_false, Bool.not_true, Bool.not_false, Bool.true_and, Bool.false_and, Bool.and_true, Bool.and_false, Bool.true_or, Bool.false_or, Bool.or_true, Bool.or_false, wr, Option.bind_some, tn_add, tn_add1, tn_sub1, tn_0, tn_1, Int.toNat_natCast, Bool.true_or]
      exact ih (i + 1) true (by omega) (by omega)
    | false =>
      have e : inT (y2.getD i zT :: y2.drop (i + 1)) t = ((decide ((y2.getD i zT).1.1 ≤ t) && decide (t < (y2.getD i zT).1.2.1)) || inT (y2.drop (i + 1)) t) := by simp [inT]
      rw [e]
      by_cases hc : (y2.getD i zT).1.1 ≤ t
      · simp (disch := omega) only [dp, dn, decide_true, decide_false, cond_true, cond_false, Bool.not_true, Bool.not_false, Bool.true_and, Bool.false_and, Bool.and_true, Bool.and_false, Bool.true_or, Bool.false_or, Bool.or_true, Bool.or_false, wr, Option.bind_some, tn_add, tn_add1, tn_sub1, tn_0, tn_1, Int.toNat_natCast]
        exact ih (i + 1) _ (by omega) (by omega)
      · simp (disch := omega) only [dp, dn, decide_true, decide_false, cond_true, cond_false, Bool.not_true, Bool.not_false, Bool.true_and, Bool.false_and, Bool.and_true, Bool.and_false, Bool.true_or, Bool.false_or, Bool.or_true, Bool.or_false, wr, Option.bind_some, tn_add, tn_add1, tn_sub1, tn_0, tn_1, Int.toNat_natCast]
        exact ih (i + 1) false (by omega) (by omega)
theorem cuts_l5 (a b : Int) (c : List Sp) (t : Int) (u : Bool) (y1 y2 : List Tg) (hl : c.length ≤ 3000) : ∀ (k i : Nat) (v : Bool), c.length - i = k → i ≤ c.length →
    voklaw10_IvCuts.l5 a b c t u v i y1 y2 = voklaw10_IvCuts.l5 a b c t u (v || inS (c.drop i) t) c.length y1 y2 := by
  intro k
  induction k with
  | zero =>
    intro i v hk hi
    have e : i = c.length := by omega
    subst e
    simp [inS]
  | succ k ih =>
    intro i v hk hi
    have hlt : i < c.length := by omega
    rw [voklaw10_IvCuts.l5_eq, drop_getD' (0, 0, ()) hlt]
    cases v with
    | true =>
      simp (disch := omega) only [dp, dn, decide_true, decide_false, cond_true, cond_false, Bool.not_true, Bool.not_false, Bool.true_and, Bool.false_and, Bool.and_true, Bool.and_false, Bool.true_or, Bool.false_or, Bool.or_true, Bool.or_false, wr, Option.bind_some, tn_add, tn_add1, tn_sub1, tn_0, tn_1, Int.toNat_natCast, Bool.true_or]
      exact ih (i + 1) true (by omega) (by omega)
    | false =>
      have e : inS (c.getD i (0, 0, ()) :: c.drop (i + 1)) t = ((decide ((c.getD i (0, 0, ())).1 ≤ t) && decide (t < (c.getD i (0, 0, ())).2.1)) || inS (c.drop (i + 1)) t) := by simp [inS]
      rw [e]
      by_cases hc : (c.getD i (0, 0, ())).1 ≤ t
      · simp (disch := omega) only [dp, dn, decide_true, decide_false, cond_true, cond_false, Bool.not_true, Bool.not_false, Bool.true_and, Bool.false_and, Bool.and_true, Bool.and_false, Bool.true_or, Bool.false_or, Bool.or_true, Bool.or_false, wr, Option.bind_some, tn_add, tn_add1, tn_sub1, tn_0, tn_1, Int.toNat_natCast]
        exact ih (i + 1) _ (by omega) (by omega)
      · simp (disch := omega) only [dp, dn, decide_true, decide_false, cond_true, cond_false, Bool.not_true, Bool.not_false, Bool.true_and, Bool.false_and, Bool.and_true, Bool.and_false, Bool.true_or, Bool.false_or, Bool.or_true, Bool.or_false, wr, Option.bind_some, tn_add, tn_add1, tn_sub1, tn_0, tn_1, Int.toNat_natCast]
        exact ih (i + 1) false (by omega) (by omega)
theorem cuts_l7 (a b : Int) (c : List Sp) (hl : c.length ≤ 3000) (hn : nrm c) (ha : ∀ s ∈ c, a ≤ s.1 ∧ s.2.1 ≤ b) : ∀ (k i : Nat), c.length - i = k → i ≤ c.length → voklaw10_IvCuts.l7 a b c i = some (true, ()) := by
  intro k
  induction k with
  | zero =>
    intro i hk hi
    rw [voklaw10_IvCuts.l7_eq]
    simp (disch := omega) only [dp, dn, decide_true, decide_false, cond_true, cond_false, Bool.not_true, Bool.not_false, Bool.true_and, Bool.false_and, Bool.and_true, Bool.and_false, Bool.true_or, Bool.false_or, Bool.or_true, Bool.or_false, wr, Option.bind_some, tn_add, tn_add1, tn_sub1, tn_0, tn_1, Int.toNat_natCast, first_true]
  | succ k ih =>
    intro i hk hi
    have hlt : i < c.length := by omega
    have a1 := ha _ (getD_mem' (0, 0, ()) hlt)
    rw [voklaw10_IvCuts.l7_eq]
    by_cases h0 : i = 0
    · subst h0
      simp (disch := omega) only [dp, dn, decide_true, decide_false, cond_true, cond_false, Bool.not_true, Bool.not_false, Bool.true_and, Bool.false_and, Bool.and_true, Bool.and_false, Bool.true_or, Bool.false_or, Bool.or_true, Bool.or_false, wr, Option.bind_some, tn_add, tn_add1, tn_sub1, tn_0, tn_1, Int.toNat_natCast, voklaw10_IvCuts.l8_eq, Int.natCast_zero]
      exact ih 1 (by omega) (by omega)
    · have hp : (c.getD (i - 1) (0, 0, ())).2.1 < (c.getD i (0, 0, ())).1 := by
        rw [getD_eq _ hlt, getD_eq _ (show i - 1 < c.length by omega)]
        exact List.pairwise_iff_getElem.1 hn.1 (i - 1) i (by omega) hlt (by omega)
      simp (disch := omega) only [dp, dn, decide_true, decide_false, cond_true, cond_false, Bool.not_true, Bool.not_false, Bool.true_and, Bool.false_and, Bool.and_true, Bool.and_false, Bool.true_or, Bool.false_or, Bool.or_true, Bool.or_false, wr, Option.bind_some, tn_add, tn_add1, tn_sub1, tn_0, tn_1, Int.toNat_natCast, voklaw10_IvCuts.l8_eq]
      exact ih (i + 1) (by omega) (by omega)
theorem inS_iff (c : List Sp) (t : Int) : inS c t = true ↔ cov c t := by simp [inS, cov]
theorem inT_iff (y : List Tg) (t : Int) : inT y t = true ↔ ∃ x ∈ y, x.1.1 ≤ t ∧ t < x.1.2.1 := by simp [inT]
theorem bool_iff {a b : Bool} (h : a = true ↔ b = true) : a = b := by cases a <;> cases b <;> simp_all
theorem cuts_l3 (a b : Int) (c : List Sp) (y : List Tg) (hi : Inv y) (hl : y.length ≤ 3000) (hlc : c.length ≤ 3000) (hn : nrm c) (hc : ∀ t, cov c t ↔ (a ≤ t ∧ t < b) ∧ ∃ x ∈ y, x.1.1 ≤ t ∧ t < x.1.2.1) (ha : -1000000 ≤ a) (hb : b ≤ 1000000) :
    ∀ (k : Nat) (t : Int), (b - t).toNat = k → a ≤ t → t ≤ b → voklaw10_IvCuts.l3 a b c t y y = some (true, ()) := by
  have hab : ∀ s ∈ c, a ≤ s.1 ∧ s.2.1 ≤ b := by
    intro s hs
    have h1 := hn.2 s hs
    have h2 := (hc s.1).1 ⟨s, hs, Int.le_refl _, h1⟩
    have h3 := (hc (s.2.1 - 1)).1 ⟨s, hs, by omega, by omega⟩
    omega
  intro k
  induction k with
  | zero =>
    intro t hk h1 h2
    rw [voklaw10_IvCuts.l3_eq]
    simp (disch := omega) only [dp, dn, decide_true, decide_false, cond_true, cond_false, Bool.not_true, Bool.not_false, Bool.true_and, Bool.false_and, Bool.and_true, Bool.and_false, Bool.true_or, Bool.false_or, Bool.or_true, Bool.or_false, wr, Option.bind_some, tn_add, tn_add1, tn_sub1, tn_0, tn_1, Int.toNat_natCast]
    exact cuts_l7 a b c hlc hn hab _ 0 rfl (Nat.zero_le _)
  | succ k ih =>
    intro t hk h1 h2
    have hlt : t < b := by omega
    have e1 := cuts_l4 a b c t y y hl _ 0 false rfl (Nat.zero_le _)
    have e2 := cuts_l5 a b c t (inT y t) y y hlc _ 0 false rfl (Nat.zero_le _)
    simp only [List.drop_zero, Bool.false_or, Int.natCast_zero] at e1 e2
    rw [voklaw10_IvCuts.l3_eq]
    simp (disch := omega) only [dp, dn, decide_true, decide_false, cond_true, cond_false, Bool.not_true, Bool.not_false, Bool.true_and, Bool.false_and, Bool.and_true, Bool.and_false, Bool.true_or, Bool.false_or, Bool.or_true, Bool.or_false, wr, Option.bind_some, tn_add, tn_add1, tn_sub1, tn_0, tn_1, Int.toNat_natCast, e1, e2]
    have hcut : inS c t = inT y t := bool_iff (by rw [inS_iff, inT_iff, hc t]; exact ⟨fun h => h.2, fun h => ⟨⟨h1, hlt⟩, h⟩⟩)
    have hnm : iv_Norm.f [(t, t + 1, ())] = some ([(t, t + 1, ())], ()) := norm_is (by simp) (nrm_one (by omega)) fun _ => Iff.rfl
    have hcl := Clash_spec hi (show y.length ≤ 1000000 by omega) [(t, t + 1, ())] [(t, t + 1, ())] (by simp) hnm 0
    have hf : (told (clashP y [(t, t + 1, ())] 0)).2 = inT y t := by
      have e3 : clashP y [(t, t + 1, ())] 0 = y.find? (hit (t, t + 1, ()) 0) := by
        unfold clashP
        rw [List.findSome?_cons]
        cases y.find? (hit (t, t + 1, ()) 0) <;> rfl
      rw [e3]
      refine bool_iff ?_
      rw [inT_iff]
      cases hq : y.find? (hit (t, t + 1, ()) 0) with
      | none =>
        simp only [told, Bool.false_eq_true, false_iff]
        rintro ⟨x, hx, h3, h4⟩
        have h5 := List.find?_eq_none.1 hq x hx
        refine h5 ?_
        unfold hit
        have := (hi.ne x hx).2
        rw [dp (p := x.2.1 ≠ 0) (by omega), dp (p := x.1.1 < t + 1) (by omega), dp (p := t < x.1.2.1) h4]
        rfl
      | some x =>
        simp only [told, true_iff]
        have h5 := List.find?_some hq
        have h6 := List.mem_of_find?_eq_some hq
        unfold hit at h5
        simp only [Bool.and_eq_true, decide_eq_true_eq] at h5
        exact ⟨x, h6, by omega, h5.2.2⟩
    rw [voklaw10_IvCuts.l5_eq]
    simp (disch := omega) only [dp, dn, decide_true, decide_false, cond_true, cond_false, Bool.not_true, Bool.not_false, Bool.true_and, Bool.false_and, Bool.and_true, Bool.and_false, Bool.true_or, Bool.false_or, Bool.or_true, Bool.or_false, wr, Option.bind_some, tn_add, tn_add1, tn_sub1, tn_0, tn_1, Int.toNat_natCast, hcl, hf, hcut, beq_self_eq_true, voklaw10_IvCuts.l6_eq]
    exact ih (t + 1) (by omega) (by omega) (by omega)
theorem IvCuts_pure (l : List Opr) (a b : Int) (ok : c6.par.T.Ok (l, a, b, ())) : voklaw10_IvCuts.f l a b = some (true, ()) := by
  obtain ⟨_, ⟨oa1, oa2⟩, ⟨ob1, ob2⟩, _⟩ := ok
  have oa1 : -9223372036854775808 ≤ a := oa1
  have oa2 : a ≤ 9223372036854775807 := oa2
  have ob1 : -9223372036854775808 ≤ b := ob1
  have ob2 : b ≤ 9223372036854775807 := ob2
  rw [voklaw10_IvCuts.f_eq]
  have out : ∀ r, voklaw10_IvCuts.l2a a b true r = some (true, ()) := by
    intro r
    rw [voklaw10_IvCuts.l2a_eq]
    simp (disch := omega) only [dp, dn, decide_true, decide_false, cond_true, cond_false, Bool.not_true, Bool.not_false, Bool.true_and, Bool.false_and, Bool.and_true, Bool.and_false, Bool.true_or, Bool.false_or, Bool.or_true, Bool.or_false, wr, Option.bind_some, tn_add, tn_add1, tn_sub1, tn_0, tn_1, Int.toNat_natCast, first_true]
  rcases played_spec l with h | ⟨r, h, h2, h3⟩
  · simp (disch := omega) only [dp, dn, decide_true, decide_false, cond_true, cond_false, Bool.not_true, Bool.not_false, Bool.true_and, Bool.false_and, Bool.and_true, Bool.and_false, Bool.true_or, Bool.false_or, Bool.or_true, Bool.or_false, wr, Option.bind_some, tn_add, tn_add1, tn_sub1, tn_0, tn_1, Int.toNat_natCast, first_true, h, voklaw10_IvCuts.l1_eq, voklaw10_IvCuts.l2_eq]
  · simp (disch := omega) only [dp, dn, decide_true, decide_false, cond_true, cond_false, Bool.not_true, Bool.not_false, Bool.true_and, Bool.false_and, Bool.and_true, Bool.and_false, Bool.true_or, Bool.false_or, Bool.or_true, Bool.or_false, wr, Option.bind_some, tn_add, tn_add1, tn_sub1, tn_0, tn_1, Int.toNat_natCast, first_true, h, voklaw10_IvCuts.l1a_eq]
    by_cases c1 : a < -1000000
    · simp (disch := omega) only [dp, dn, decide_true, decide_false, cond_true, cond_false, Bool.not_true, Bool.not_false, Bool.true_and, Bool.false_and, Bool.and_true, Bool.and_false, Bool.true_or, Bool.false_or, Bool.or_true, Bool.or_false, wr, Option.bind_some, tn_add, tn_add1, tn_sub1, tn_0, tn_1, Int.toNat_natCast]
      exact out r
    · by_cases c2 : b > 1000000
      · simp (disch := omega) only [dp, dn, decide_true, decide_false, cond_true, cond_false, Bool.not_true, Bool.not_false, Bool.true_and, Bool.false_and, Bool.and_true, Bool.and_false, Bool.true_or, Bool.false_or, Bool.or_true, Bool.or_false, wr, Option.bind_some, tn_add, tn_add1, tn_sub1, tn_0, tn_1, Int.toNat_natCast]
        exact out r
      · by_cases c3 : b < a
        · simp (disch := omega) only [dp, dn, decide_true, decide_false, cond_true, cond_false, Bool.not_true, Bool.not_false, Bool.true_and, Bool.false_and, Bool.and_true, Bool.and_false, Bool.true_or, Bool.false_or, Bool.or_true, Bool.or_false, wr, Option.bind_some, tn_add, tn_add1, tn_sub1, tn_0, tn_1, Int.toNat_natCast]
          exact out r
        · by_cases c4 : b - a > 300
          · simp (disch := omega) only [dp, dn, decide_true, decide_false, cond_true, cond_false, Bool.not_true, Bool.not_false, Bool.true_and, Bool.false_and, Bool.and_true, Bool.and_false, Bool.true_or, Bool.false_or, Bool.or_true, Bool.or_false, wr, Option.bind_some, tn_add, tn_add1, tn_sub1, tn_0, tn_1, Int.toNat_natCast]
            exact out r
          · obtain ⟨c, h4, h5, h6, h7, h8⟩ := Cut_spec r (by omega) a b
            simp (disch := omega) only [dp, dn, decide_true, decide_false, cond_true, cond_false, Bool.not_true, Bool.not_false, Bool.true_and, Bool.false_and, Bool.and_true, Bool.and_false, Bool.true_or, Bool.false_or, Bool.or_true, Bool.or_false, wr, Option.bind_some, tn_add, tn_add1, tn_sub1, tn_0, tn_1, Int.toNat_natCast, voklaw10_IvCuts.l2a_eq, List_spec r (show r.length ≤ 1000000 by omega), h4]
            exact cuts_l3 a b c r h2 h3 (by omega) h6 h7 (by omega) (by omega) _ a rfl (Int.le_refl _) (by omega)
end Go.GV.Ytpffinebjiopaaa
