/-
Rows of numbers: rising, each once; what the document's Has, Ints and Sorted come to. (This session's own text.)
-/
import Derived.Test.YtkkfgajlnpcpcaaGreatDoorK1
import Derived.Test.YtkkfgajlnpcpcaaGreatDoorGvList
set_option linter.unusedVariables false
set_option linter.unusedSimpArgs false
namespace Go.GV.YtkkfgajlnpcpcaaGreatDoor
open Go.Proofs
/-! ### Lists that rise -/
abbrev rises (l : List Int) : Prop := l.Pairwise (· < ·)
theorem rises_uniq : ∀ {a b : List Int}, rises a → rises b → (∀ x, x ∈ a ↔ x ∈ b) → a = b
  | [], [], _, _, _ => rfl
  | [], y :: b, _, _, h => by have := (h y).2 List.mem_cons_self; cases this
  | x :: a, [], _, _, h => by have := (h x).1 List.mem_cons_self; cases this
  | x :: a, y :: b, ha, hb, h => by
    have ha := List.pairwise_cons.1 ha
    have hb := List.pairwise_cons.1 hb
    have e : x = y := by
      have h1 := (h x).1 List.mem_cons_self
      have h2 := (h y).2 List.mem_cons_self
      rcases List.mem_cons.1 h1 with h1 | h1
      · exact h1
      · rcases List.mem_cons.1 h2 with h2 | h2
        · exact h2.symm
        · have := hb.1 x h1; have := ha.1 y h2; omega
    subst e
    rw [rises_uniq ha.2 hb.2 fun z => ?_]
    have h3 := h z
    simp only [List.mem_cons] at h3
    constructor
    · intro hz
      rcases h3.1 (.inr hz) with h4 | h4
      · have := ha.1 z hz; omega
      · exact h4
    · intro hz
      rcases h3.2 (.inr hz) with h4 | h4
      · have := hb.1 z hz; omega
      · exact h4
/-! ### The document's words on lists -/
theorem ints_same (a : List Int) (ha : a.length ≤ 1000000) : vokref_Ints.f a a = some (true, ()) := by
  have key : ∀ (k i : Nat), a.length - i = k → i ≤ a.length → vokref_Ints.l1 a a i = some (true, ()) := by
    intro k
    induction k with
    | zero =>
      intro i hk hi
      rw [vokref_Ints.l1_eq]
      simp (disch := omega) only [dp, dn, decide_true, decide_false, cond_true, cond_false, Bool.not_true, Bool.not_false, Bool.true_and, Bool.false_and, Bool.and_true, Bool.and_false, Bool.true_or, Bool.false_or, Bool.or_true, Bool.or_false, wr, Option.bind_some, tn_add, tn_add1, tn_sub1, tn_0, tn_1, Int.toNat_natCast]
    | succ k ih =>
      intro i hk hi
      rw [vokref_Ints.l1_eq]
      simp (disch := omega) only [dp, dn, decide_true, decide_false, cond_true, cond_false, Bool.not_true, Bool.not_false, Bool.true_and, Bool.false_and, Bool.and_true, Bool.and_false, Bool.true_or, Bool.false_or, Bool.or_true, Bool.or_false, wr, Option.bind_some, tn_add, tn_add1, tn_sub1, tn_0, tn_1, Int.toNat_natCast]
      exact ih (i + 1) (by omega) (by omega)
  rw [vokref_Ints.f_eq]
  have := key _ 0 rfl (Nat.zero_le _)
  rw [show ((0 : Nat) : Int) = 0 from rfl] at this
  simp (disch := omega) only [dp, dn, decide_true, decide_false, cond_true, cond_false, Bool.not_true, Bool.not_false, Bool.true_and, Bool.false_and, Bool.and_true, Bool.and_false, Bool.true_or, Bool.false_or, Bool.or_true, Bool.or_false, wr, Option.bind_some, tn_add, tn_add1, tn_sub1, tn_0, tn_1, Int.toNat_natCast, this]
theorem sorted_l2 (l : List Int) (i : Nat) (hi : i < l.length) (hl : l.length ≤ 1000000) (y : List Int) (hy : y.length ≤ 1000000) : ∀ (k q : Nat), y.length - q = k → q ≤ y.length → (∀ j, j < q → y.getD j 0 < l.getD i 0) →
    ∃ q' : Nat, q' ≤ y.length ∧ vokref_Sorted.l2 l i q y = vokref_Sorted.l4 l i q' y ∧ (∀ j, j < q' → y.getD j 0 < l.getD i 0) ∧ (q' < y.length → l.getD i 0 ≤ y.getD q' 0) := by
  intro k
  induction k with
  | zero =>
    intro q hk hq h
    refine ⟨q, hq, ?_, h, fun h => by omega⟩
    rw [vokref_Sorted.l2_eq]
    simp (disch := omega) only [dp, dn, decide_true, decide_false, cond_true, cond_false, Bool.not_true, Bool.not_false, Bool.true_and, Bool.false_and, Bool.and_true, Bool.and_false, Bool.true_or, Bool.false_or, Bool.or_true, Bool.or_false, wr, Option.bind_some, tn_add, tn_add1, tn_sub1, tn_0, tn_1, Int.toNat_natCast, vokref_Sorted.l3_eq]
  | succ k ih =>
    intro q hk hq h
    rw [vokref_Sorted.l2_eq]
    by_cases hc : y.getD q 0 < l.getD i 0
    · simp (disch := omega) only [dp, dn, decide_true, decide_false, cond_true, cond_false, Bool.not_true, Bool.not_false, Bool.true_and, Bool.false_and, Bool.and_true, Bool.and_false, Bool.true_or, Bool.false_or, Bool.or_true, Bool.or_false, wr, Option.bind_some, tn_add, tn_add1, tn_sub1, tn_0, tn_1, Int.toNat_natCast, vokref_Sorted.l3_eq]
      refine ih (q + 1) (by omega) (by omega) fun j hj => ?_
      by_cases e : j = q
      · subst e; exact hc
      · exact h j (by omega)
    · simp (disch := omega) only [dp, dn, decide_true, decide_false, cond_true, cond_false, Bool.not_true, Bool.not_false, Bool.true_and, Bool.false_and, Bool.and_true, Bool.and_false, Bool.true_or, Bool.false_or, Bool.or_true, Bool.or_false, wr, Option.bind_some, tn_add, tn_add1, tn_sub1, tn_0, tn_1, Int.toNat_natCast, vokref_Sorted.l3_eq]
      exact ⟨q, hq, rfl, h, fun _ => by omega⟩
theorem sorted_l1 (l : List Int) (hl : l.length ≤ 1000000) : ∀ (k i : Nat) (y : List Int), l.length - i = k → i ≤ l.length → y.length ≤ i → rises y →
    ∃ r, vokref_Sorted.l1 l i y = some (r, ()) ∧ rises r ∧ ∀ x, x ∈ r ↔ x ∈ y ∨ x ∈ l.drop i := by
  have hlim : limit = 17179869184 := rfl
  intro k
  induction k with
  | zero =>
    intro i y hk hi hy hr
    have e : i = l.length := by omega
    subst e
    rw [vokref_Sorted.l1_eq]
    simp (disch := omega) only [dp, dn, decide_true, decide_false, cond_true, cond_false, Bool.not_true, Bool.not_false, Bool.true_and, Bool.false_and, Bool.and_true, Bool.and_false, Bool.true_or, Bool.false_or, Bool.or_true, Bool.or_false, wr, Option.bind_some, tn_add, tn_add1, tn_sub1, tn_0, tn_1, Int.toNat_natCast]
    exact ⟨y, rfl, hr, fun x => by simp⟩
  | succ k ih =>
    intro i y hk hi hy hr
    have hlt : i < l.length := by omega
    obtain ⟨q, h1, h2, h3, h4⟩ := sorted_l2 l i hlt hl y (by omega) _ 0 rfl (Nat.zero_le _) fun j hj => by omega
    rw [vokref_Sorted.l1_eq]
    rw [Int.natCast_zero] at h2
    simp (disch := omega) only [dp, dn, decide_true, decide_false, cond_true, cond_false, Bool.not_true, Bool.not_false, Bool.true_and, Bool.false_and, Bool.and_true, Bool.and_false, Bool.true_or, Bool.false_or, Bool.or_true, Bool.or_false, wr, Option.bind_some, tn_add, tn_add1, tn_sub1, tn_0, tn_1, Int.toNat_natCast, h2]
    rw [drop_getD' 0 hlt, vokref_Sorted.l4_eq]
    have ins : (q < y.length → l.getD i 0 < y.getD q 0) → ∃ r, vokref_Sorted.l6 l i q y = some (r, ()) ∧ rises r ∧ ∀ x, x ∈ r ↔ x ∈ y ∨ x ∈ l.getD i 0 :: l.drop (i + 1) := by
      intro h5
      have hp := ins_perm y (l.getD i 0) q
      have hs : rises (y.take q ++ ([l.getD i 0] ++ y.drop q)) := by
        refine ins_sorted hr (fun a ha => ?_) fun a ha => ?_
        · obtain ⟨j, hj, e⟩ := List.getElem_of_mem ha
          rw [List.length_take] at hj
          rw [List.getElem_take] at e
          have := h3 j (by omega)
          rw [getD_eq 0 (by omega), e] at this
          exact this
        · obtain ⟨j, hj, e⟩ := List.getElem_of_mem ha
          rw [List.length_drop] at hj
          rw [List.getElem_drop] at e
          have a1 := h5 (by omega)
          rw [getD_eq 0 (show q < y.length by omega)] at a1
          by_cases hj0 : j = 0
          · subst hj0
            simp only [Nat.add_zero] at e
            rw [← e]; exact a1
          · have := List.pairwise_iff_getElem.1 hr q (q + j) (by omega) (by omega) (by omega)
            rw [e] at this
            omega
      obtain ⟨r, b1, b2, b3⟩ := ih (i + 1) _ (by omega) (by omega) (by rw [hp.length_eq]; simp; omega) hs
      refine ⟨r, ?_, b2, fun x => ?_⟩
      · rw [vokref_Sorted.l6_eq]
        simp (disch := omega) only [dp, dn, decide_true, decide_false, cond_true, cond_false, Bool.not_true, Bool.not_false, Bool.true_and, Bool.false_and, Bool.and_true, Bool.and_false, Bool.true_or, Bool.false_or, Bool.or_true, Bool.or_false, wr, Option.bind_some, tn_add, tn_add1, tn_sub1, tn_0, tn_1, Int.toNat_natCast, List.length_singleton, List.length_append, List.length_take, List.length_drop, hlim]
        exact b1
      · rw [b3, hp.mem_iff, List.mem_cons, List.mem_cons]
        constructor
        · rintro ((h | h) | h)
          · exact .inr (.inl h)
          · exact .inl h
          · exact .inr (.inr h)
        · rintro (h | h | h)
          · exact .inl (.inr h)
          · exact .inl (.inl h)
          · exact .inr h
    by_cases hq : q < y.length
    · by_cases he : y.getD q 0 = l.getD i 0
      · simp (disch := omega) only [dp, dn, decide_true, decide_false, cond_true, cond_false, Bool.not_true, Bool.not_false, Bool.true_and, Bool.false_and, Bool.and_true, Bool.and_false, Bool.true_or, Bool.false_or, Bool.or_true, Bool.or_false, wr, Option.bind_some, tn_add, tn_add1, tn_sub1, tn_0, tn_1, Int.toNat_natCast, vokref_Sorted.l5_eq]
        obtain ⟨r, b1, b2, b3⟩ := ih (i + 1) y (by omega) (by omega) (by omega) hr
        refine ⟨r, b1, b2, fun x => ?_⟩
        have hm : l.getD i 0 ∈ y := by rw [← he]; exact getD_mem' 0 hq
        rw [b3, List.mem_cons]
        constructor
        · rintro (h | h)
          · exact .inl h
          · exact .inr (.inr h)
        · rintro (h | h | h)
          · exact .inl h
          · exact .inl (h ▸ hm)
          · exact .inr h
      · simp (disch := omega) only [dp, dn, decide_true, decide_false, cond_true, cond_false, Bool.not_true, Bool.not_false, Bool.true_and, Bool.false_and, Bool.and_true, Bool.and_false, Bool.true_or, Bool.false_or, Bool.or_true, Bool.or_false, wr, Option.bind_some, tn_add, tn_add1, tn_sub1, tn_0, tn_1, Int.toNat_natCast, vokref_Sorted.l5_eq]
        exact ins fun h => by have := h4 h; omega
    · simp (disch := omega) only [dp, dn, decide_true, decide_false, cond_true, cond_false, Bool.not_true, Bool.not_false, Bool.true_and, Bool.false_and, Bool.and_true, Bool.and_false, Bool.true_or, Bool.false_or, Bool.or_true, Bool.or_false, wr, Option.bind_some, tn_add, tn_add1, tn_sub1, tn_0, tn_1, Int.toNat_natCast, vokref_Sorted.l5_eq]
      exact ins fun h => by omega
theorem Sorted_spec (l : List Int) (hl : l.length ≤ 1000000) : ∃ r, vokref_Sorted.f l = some (r, ()) ∧ rises r ∧ ∀ x, x ∈ r ↔ x ∈ l := by
  obtain ⟨r, h1, h2, h3⟩ := sorted_l1 l hl _ 0 [] rfl (Nat.zero_le _) (Nat.le_refl _) List.Pairwise.nil
  refine ⟨r, ?_, h2, fun x => by rw [h3]; simp⟩
  rw [vokref_Sorted.f_eq]
  exact h1
end Go.GV.YtkkfgajlnpcpcaaGreatDoor
