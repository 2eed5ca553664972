/-
timer.Merge: a heap of all numbers, popped. (This session's own text.)
-/
import Derived.Test.YtfddmilldiadeaaTmQueue
import Derived.Test.YtfddmilldiadeaaInts
set_option linter.unusedVariables false
set_option linter.unusedSimpArgs false
namespace Go.GV.Ytfddmilldiadeaa
open Go.Proofs
theorem mg_l2 (c : Int) (l : List (List Int)) (N i : Nat) (hi : i < 1000000) (q : List Int) : ∀ (k j : Nat) (y : List It), q.length - j = k → j ≤ q.length → y.length + k ≤ 1000000 → q.length ≤ 1000000 →
    ∃ r, timer_Merge.l2 c l N i q q.length j y = timer_Merge.l1 l N (i + 1 : Nat) r ∧ r.map (fun t : It => t.1) = y.map (fun t : It => t.1) ++ q.drop j := by
  have hlim : limit = 17179869184 := rfl
  intro k
  induction k with
  | zero =>
    intro j y hk hj hy hq
    have e : j = q.length := by omega
    subst e
    refine ⟨y, ?_, by simp⟩
    rw [timer_Merge.l2_eq]
    simp (disch := omega) only [dp, dn, decide_true, decide_false, cond_true, cond_false, Bool.not_true, Bool.not_false, Bool.true_and, Bool.false_and, Bool.and_true, Bool.and_false, Bool.true_or, Bool.false_or, Bool.or_true, Bool.or_false, wr, Option.bind_some, tn_add, tn_add1, tn_sub1, tn_0, tn_1, Int.toNat_natCast]
    rfl
  | succ k ih =>
    intro j y hk hj hy hq
    have hlt : j < q.length := by omega
    obtain ⟨r, h1, h2⟩ := ih (j + 1) (y ++ [(q.getD j 0, c, ())]) (by omega) (by omega) (by simp; omega) hq
    refine ⟨r, ?_, by rw [h2, drop_getD' 0 hlt]; simp⟩
    rw [timer_Merge.l2_eq]
    simp (disch := omega) only [dp, dn, decide_true, decide_false, cond_true, cond_false, Bool.not_true, Bool.not_false, Bool.true_and, Bool.false_and, Bool.and_true, Bool.and_false, Bool.true_or, Bool.false_or, Bool.or_true, Bool.or_false, wr, Option.bind_some, tn_add, tn_add1, tn_sub1, tn_0, tn_1, Int.toNat_natCast, List.length_singleton, hlim]
    exact h1
/-- All that lists hold, one after another. -/
abbrev sumL (l : List (List Int)) : Nat := l.flatten.length
theorem mg_l1 (l : List (List Int)) (hl : l.length ≤ 1000000) (hs : sumL l ≤ 1000000) : ∀ (k i : Nat) (y : List It), l.length - i = k → i ≤ l.length → y.length + sumL (l.drop i) ≤ 1000000 →
    ∃ r, timer_Merge.l1 l l.length i y = ((heap_Init.f ((r, ()), ())).bind fun t1 => timer_Merge.l3 t1.1.1.1 []) ∧ r.map (fun t : It => t.1) = y.map (fun t : It => t.1) ++ (l.drop i).flatten := by
  intro k
  induction k with
  | zero =>
    intro i y hk hi hy
    have e : i = l.length := by omega
    subst e
    refine ⟨y, ?_, by simp⟩
    rw [timer_Merge.l1_eq]
    simp (disch := omega) only [dp, dn, decide_true, decide_false, cond_true, cond_false, Bool.not_true, Bool.not_false, Bool.true_and, Bool.false_and, Bool.and_true, Bool.and_false, Bool.true_or, Bool.false_or, Bool.or_true, Bool.or_false, wr, Option.bind_some, tn_add, tn_add1, tn_sub1, tn_0, tn_1, Int.toNat_natCast]
  | succ k ih =>
    intro i y hk hi hy
    have hlt : i < l.length := by omega
    have hd := drop_getD' (z := ([] : List Int)) hlt
    rw [hd] at hy ⊢
    simp only [sumL, List.flatten_cons, List.length_append] at hy
    obtain ⟨r, h1, h2⟩ := mg_l2 i l l.length i (by omega) (l.getD i []) _ 0 y rfl (Nat.zero_le _) (by omega) (by omega)
    have h2l := congrArg List.length h2
    simp only [List.length_map, List.length_append, List.drop_zero] at h2l
    obtain ⟨q, h3, h4⟩ := ih (i + 1) r (by omega) (by omega) (by simp only [sumL]; omega)
    refine ⟨q, ?_, by rw [h4, h2]; simp⟩
    rw [timer_Merge.l1_eq]
    rw [Int.natCast_zero] at h1
    simp (disch := omega) only [dp, dn, decide_true, decide_false, cond_true, cond_false, Bool.not_true, Bool.not_false, Bool.true_and, Bool.false_and, Bool.and_true, Bool.and_false, Bool.true_or, Bool.false_or, Bool.or_true, Bool.or_false, wr, Option.bind_some, tn_add, tn_add1, tn_sub1, tn_0, tn_1, Int.toNat_natCast, h1]
    exact h3
theorem mg_l3 : ∀ (n : Nat) (y : List It) (o : List Int), y.length = n → y.length + o.length ≤ 1000000 → Hq y → rises o → (∀ a ∈ o, ∀ t ∈ y, a ≤ t.1) →
    ∃ r, timer_Merge.l3 y o = some (r, ()) ∧ rises r ∧ (∀ x, x ∈ r ↔ x ∈ o ∨ ∃ t ∈ y, t.1 = x) ∧ r.length ≤ y.length + o.length
  | 0, y, o, hn, hl, hy, ho, hle => by
    have e := nil_of_len hn
    subst e
    refine ⟨o, ?_, ho, fun x => by simp, by simp⟩
    rw [timer_Merge.l3_eq]
    simp (disch := omega) only [dp, dn, decide_true, decide_false, cond_true, cond_false, Bool.not_true, Bool.not_false, Bool.true_and, Bool.false_and, Bool.and_true, Bool.and_false, Bool.true_or, Bool.false_or, Bool.or_true, Bool.or_false, wr, Option.bind_some, tn_add, tn_add1, tn_sub1, tn_0, tn_1, Int.toNat_natCast, List.length_nil, Int.natCast_zero]
  | n + 1, y, o, hn, hl, hy, ho, hle => by
    have hlim : limit = 17179869184 := rfl
    obtain ⟨x, r, h1, h2, h3⟩ := Pop_spec y (by omega) (by omega) hy
    have hrl : r.length = n := by have := h2.length_eq; simp at this; omega
    have hm : y.getD 0 ((0, 0, ()) : Int × Int × Unit) ∈ y := getD_mem' ((0, 0, ()) : Int × Int × Unit) (by omega)
    have hrle : ∀ t ∈ r, (y.getD 0 ((0, 0, ()) : Int × Int × Unit)).1 ≤ t.1 := fun t ht => by
      have := hy.least (h2.mem_iff.2 (List.mem_cons_of_mem _ ht))
      unfold le lt at this
      omega
    have hmem : ∀ x, (∃ t ∈ y, t.1 = x) ↔ (y.getD 0 ((0, 0, ()) : Int × Int × Unit)).1 = x ∨ ∃ t ∈ r, t.1 = x := fun x => by
      constructor
      · rintro ⟨t, ht, e⟩
        rcases List.mem_cons.1 (h2.mem_iff.1 ht) with h | h
        · exact .inl (h ▸ e)
        · exact .inr ⟨t, h, e⟩
      · rintro (e | ⟨t, ht, e⟩)
        · exact ⟨_, hm, e⟩
        · exact ⟨t, h2.mem_iff.2 (List.mem_cons_of_mem _ ht), e⟩
    have put : (∀ a ∈ o, a < (y.getD 0 ((0, 0, ()) : Int × Int × Unit)).1) → ∃ q, timer_Merge.l4 (y.getD 0 ((0, 0, ()) : Int × Int × Unit)).1 true r o = some (q, ()) ∧ rises q ∧ (∀ x, x ∈ q ↔ x ∈ o ∨ ∃ t ∈ y, t.1 = x) ∧ q.length ≤ y.length + o.length := fun hlt => by
      have ho2 : rises (o ++ [(y.getD 0 ((0, 0, ()) : Int × Int × Unit)).1]) := List.pairwise_append.2 ⟨ho, List.pairwise_singleton _ _, fun a ha b hb => by rw [List.mem_singleton] at hb; rw [hb]; exact hlt a ha⟩
      obtain ⟨q, g1, g2, g3, g4⟩ := mg_l3 n r (o ++ [(y.getD 0 ((0, 0, ()) : Int × Int × Unit)).1]) hrl (by simp; omega) h3 ho2 fun a ha t ht => by
        rcases List.mem_append.1 ha with h | h
        · exact hle a h t (h2.mem_iff.2 (List.mem_cons_of_mem _ ht))
        · rw [List.mem_singleton] at h; rw [h]; exact hrle t ht
      refine ⟨q, ?_, g2, fun x => ?_, ?_⟩
      · rw [timer_Merge.l4_eq]
        simp (disch := omega) only [dp, dn, decide_true, decide_false, cond_true, cond_false, Bool.not_true, Bool.not_false, Bool.true_and, Bool.false_and, Bool.and_true, Bool.and_false, Bool.true_or, Bool.false_or, Bool.or_true, Bool.or_false, wr, Option.bind_some, tn_add, tn_add1, tn_sub1, tn_0, tn_1, Int.toNat_natCast, List.length_singleton, hlim]
        exact g1
      · rw [g3, List.mem_append, List.mem_singleton, hmem, or_assoc, eq_comm (a := x)]
      · simp at g4; omega
    have skip : (y.getD 0 ((0, 0, ()) : Int × Int × Unit)).1 ∈ o → ∃ q, timer_Merge.l4 (y.getD 0 ((0, 0, ()) : Int × Int × Unit)).1 false r o = some (q, ()) ∧ rises q ∧ (∀ x, x ∈ q ↔ x ∈ o ∨ ∃ t ∈ y, t.1 = x) ∧ q.length ≤ y.length + o.length := fun hin => by
      obtain ⟨q, g1, g2, g3, g4⟩ := mg_l3 n r o hrl (by omega) h3 ho fun a ha t ht => hle a ha t (h2.mem_iff.2 (List.mem_cons_of_mem _ ht))
      refine ⟨q, ?_, g2, fun x => ?_, by omega⟩
      · rw [timer_Merge.l4_eq]
        simp (disch := omega) only [dp, dn, decide_true, decide_false, cond_true, cond_false, Bool.not_true, Bool.not_false, Bool.true_and, Bool.false_and, Bool.and_true, Bool.and_false, Bool.true_or, Bool.false_or, Bool.or_true, Bool.or_false, wr, Option.bind_some, tn_add, tn_add1, tn_sub1, tn_0, tn_1, Int.toNat_natCast]
        exact g1
      · rw [g3, hmem]
        constructor
        · rintro (h | h)
          · exact .inl h
          · exact .inr (.inr h)
        · rintro (h | h | h)
          · exact .inl h
          · exact .inl (h ▸ hin)
          · exact .inr h
    rw [timer_Merge.l3_eq]
    rcases snoc_cases o with e | ⟨p, a, e⟩
    · subst e
      simp (disch := omega) only [dp, dn, decide_true, decide_false, cond_true, cond_false, Bool.not_true, Bool.not_false, Bool.true_and, Bool.false_and, Bool.and_true, Bool.and_false, Bool.true_or, Bool.false_or, Bool.or_true, Bool.or_false, wr, Option.bind_some, tn_add, tn_add1, tn_sub1, tn_0, tn_1, Int.toNat_natCast, h1, List.length_nil, Int.natCast_zero]
      exact put fun a ha => by cases ha
    · have hol : o.length = p.length + 1 := by rw [e]; simp
      have w1 : IntKind.i64.wrap ((o.length : Int) - 1) = (p.length : Int) := by rw [hol]; exact wr_pred (by omega)
      have ha : o.getD p.length 0 = a := by rw [e]; exact getD_snoc p a 0
      have hao : a ∈ o := by rw [e]; simp
      simp (disch := omega) only [dp, dn, decide_true, decide_false, cond_true, cond_false, Bool.not_true, Bool.not_false, Bool.true_and, Bool.false_and, Bool.and_true, Bool.and_false, Bool.true_or, Bool.false_or, Bool.or_true, Bool.or_false, wr, Option.bind_some, tn_add, tn_add1, tn_sub1, tn_0, tn_1, Int.toNat_natCast, h1, w1, ha]
      by_cases hc : a = (y.getD 0 ((0, 0, ()) : Int × Int × Unit)).1
      · simp (disch := omega) only [dp, dn, decide_true, decide_false, cond_true, cond_false, Bool.not_true, Bool.not_false, Bool.true_and, Bool.false_and, Bool.and_true, Bool.and_false, Bool.true_or, Bool.false_or, Bool.or_true, Bool.or_false, wr, Option.bind_some, tn_add, tn_add1, tn_sub1, tn_0, tn_1, Int.toNat_natCast]
        exact skip (hc ▸ hao)
      · simp (disch := omega) only [dp, dn, decide_true, decide_false, cond_true, cond_false, Bool.not_true, Bool.not_false, Bool.true_and, Bool.false_and, Bool.and_true, Bool.and_false, Bool.true_or, Bool.false_or, Bool.or_true, Bool.or_false, wr, Option.bind_some, tn_add, tn_add1, tn_sub1, tn_0, tn_1, Int.toNat_natCast]
        refine put fun b hb => ?_
        have hay := hle a hao _ hm
        rw [e] at hb ho
        rcases List.mem_append.1 hb with h | h
        · have := (List.pairwise_append.1 ho).2.2 b h a (by simp); omega
        · rw [List.mem_singleton] at h; omega
theorem Merge_spec (l : List (List Int)) (hl : l.length ≤ 1000000) (hs : sumL l ≤ 1000000) : ∃ r, timer_Merge.f l = some (r, ()) ∧ rises r ∧ (∀ x, x ∈ r ↔ x ∈ l.flatten) ∧ r.length ≤ sumL l := by
  obtain ⟨y, h1, h2⟩ := mg_l1 l hl hs _ 0 [] rfl (Nat.zero_le _) (by rw [List.drop_zero]; simp only [List.length_nil]; omega)
  rw [List.drop_zero, List.map_nil, List.nil_append] at h2
  have hyl : y.length = sumL l := by have := congrArg List.length h2; rwa [List.length_map] at this
  obtain ⟨r, h3, h4, h5⟩ := Init_spec y (by omega)
  have hrl := h4.length_eq
  obtain ⟨q, g1, g2, g3, g4⟩ := mg_l3 r.length r [] rfl (by simp only [List.length_nil]; omega) h5 List.Pairwise.nil fun a ha => by cases ha
  refine ⟨q, ?_, g2, fun x => ?_, ?_⟩
  · rw [timer_Merge.f_eq]
    rw [Int.natCast_zero] at h1
    rw [h1, h3]
    exact g1
  · rw [g3, ← h2, List.mem_map]
    constructor
    · rintro (h | ⟨t, ht, e⟩)
      · cases h
      · exact ⟨t, h4.mem_iff.1 ht, e⟩
    · rintro ⟨t, ht, e⟩
      exact .inr ⟨t, h4.mem_iff.2 ht, e⟩
  · simp at g4; omega
theorem merge_uniq {l : List (List Int)} (hl : l.length ≤ 1000000) (hs : sumL l ≤ 1000000) {r : List Int} (hr : rises r) (h : ∀ x, x ∈ r ↔ x ∈ l.flatten) : timer_Merge.f l = some (r, ()) := by
  obtain ⟨q, h1, h2, h3, _⟩ := Merge_spec l hl hs
  rw [h1, rises_uniq h2 hr fun x => (h3 x).trans (h x).symm]
end Go.GV.Ytfddmilldiadeaa
