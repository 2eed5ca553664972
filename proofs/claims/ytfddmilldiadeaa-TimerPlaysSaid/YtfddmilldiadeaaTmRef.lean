/-
The document's queue: sorted items. (This session's own text.)
-/
import Derived.Test.YtfddmilldiadeaaTmQueue
set_option linter.unusedVariables false
set_option linter.unusedSimpArgs false
namespace Go.GV.Ytfddmilldiadeaa
open Go.Proofs
/-- Two that stand for one. -/
structure Like (y L : List It) : Prop where
  heap : Hq y
  sorted : srt L
  perm : y.Perm L
theorem Like.len {y L : List It} (h : Like y L) : y.length = L.length := h.perm.length_eq
theorem Like.nil : Like [] [] := ⟨Hq.nil, List.Pairwise.nil, List.Perm.refl _⟩
theorem vpush_l1 (a b : Int) (l : List It) (hl : l.length < 1000000) : ∀ (k i : Nat), l.length - i = k → i ≤ l.length → (∀ j, j < i → lt (l.getD j ((0, 0, ()) : Int × Int × Unit)) (a, b, ())) →
    ∃ q : Nat, q ≤ l.length ∧ vokref10_Queue_Push.l1 a b i l = vokref10_Queue_Push.l3 a b q l ∧ (∀ j, j < q → lt (l.getD j ((0, 0, ()) : Int × Int × Unit)) (a, b, ())) ∧ (q < l.length → le (a, b, ()) (l.getD q ((0, 0, ()) : Int × Int × Unit))) := by
  intro k
  induction k with
  | zero =>
    intro i hk hi h
    refine ⟨i, hi, ?_, h, fun h => by omega⟩
    rw [vokref10_Queue_Push.l1_eq]
    simp (disch := omega) only [dp, dn, decide_true, decide_false, cond_true, cond_false, Bool.not_true, Bool.not_false, Bool.true_and, Bool.false_and, Bool.and_true, Bool.and_false, Bool.true_or, Bool.false_or, Bool.or_true, Bool.or_false, wr, Option.bind_some, tn_add, tn_add1, tn_sub1, tn_0, tn_1, Int.toNat_natCast, vokref10_Queue_Push.l2_eq]
  | succ k ih =>
    intro i hk hi h
    rw [vokref10_Queue_Push.l1_eq]
    have step : lt (l.getD i ((0, 0, ()) : Int × Int × Unit)) (a, b, ()) → ∀ j, j < i + 1 → lt (l.getD j ((0, 0, ()) : Int × Int × Unit)) (a, b, ()) := fun hc j hj => by
      by_cases e : j = i
      · subst e; exact hc
      · exact h j (by omega)
    by_cases c1 : (l.getD i ((0, 0, ()) : Int × Int × Unit)).1 < a
    · simp (disch := omega) only [dp, dn, decide_true, decide_false, cond_true, cond_false, Bool.not_true, Bool.not_false, Bool.true_and, Bool.false_and, Bool.and_true, Bool.and_false, Bool.true_or, Bool.false_or, Bool.or_true, Bool.or_false, wr, Option.bind_some, tn_add, tn_add1, tn_sub1, tn_0, tn_1, Int.toNat_natCast, vokref10_Queue_Push.l2_eq]
      exact ih (i + 1) (by omega) (by omega) (step (.inl c1))
    · by_cases c2 : (l.getD i ((0, 0, ()) : Int × Int × Unit)).1 = a
      · by_cases c3 : (l.getD i ((0, 0, ()) : Int × Int × Unit)).2.1 < b
        · simp (disch := omega) only [dp, dn, decide_true, decide_false, cond_true, cond_false, Bool.not_true, Bool.not_false, Bool.true_and, Bool.false_and, Bool.and_true, Bool.and_false, Bool.true_or, Bool.false_or, Bool.or_true, Bool.or_false, wr, Option.bind_some, tn_add, tn_add1, tn_sub1, tn_0, tn_1, Int.toNat_natCast, vokref10_Queue_Push.l2_eq]
          exact ih (i + 1) (by omega) (by omega) (step (.inr ⟨c2, c3⟩))
        · simp (disch := omega) only [dp, dn, decide_true, decide_false, cond_true, cond_false, Bool.not_true, Bool.not_false, Bool.true_and, Bool.false_and, Bool.and_true, Bool.and_false, Bool.true_or, Bool.false_or, Bool.or_true, Bool.or_false, wr, Option.bind_some, tn_add, tn_add1, tn_sub1, tn_0, tn_1, Int.toNat_natCast, vokref10_Queue_Push.l2_eq]
          exact ⟨i, hi, rfl, h, fun _ => by unfold le lt; simp only; omega⟩
      · simp (disch := omega) only [dp, dn, decide_true, decide_false, cond_true, cond_false, Bool.not_true, Bool.not_false, Bool.true_and, Bool.false_and, Bool.and_true, Bool.and_false, Bool.true_or, Bool.false_or, Bool.or_true, Bool.or_false, wr, Option.bind_some, tn_add, tn_add1, tn_sub1, tn_0, tn_1, Int.toNat_natCast, vokref10_Queue_Push.l2_eq]
        exact ⟨i, hi, rfl, h, fun _ => by unfold le lt; simp only; omega⟩
theorem vpush_spec (a b : Int) (l : List It) (hl : l.length < 1000000) (hs : srt l) : ∃ r, vokref10_Queue_Push.f (l, ()) a b = some ((r, ()), ()) ∧ r.Perm ((a, b, ()) :: l) ∧ srt r := by
  have hlim : limit = 17179869184 := rfl
  obtain ⟨q, hq, h1, h2, h3⟩ := vpush_l1 a b l hl _ 0 rfl (Nat.zero_le _) fun j hj => by omega
  rw [Int.natCast_zero] at h1
  refine ⟨l.take q ++ ([(a, b, ())] ++ l.drop q), ?_, ins_perm l _ q, ins_sorted hs (fun x hx => ?_) fun x hx => ?_⟩
  · rw [vokref10_Queue_Push.f_eq, h1, vokref10_Queue_Push.l3_eq]
    simp (disch := omega) only [dp, dn, decide_true, decide_false, cond_true, cond_false, Bool.not_true, Bool.not_false, Bool.true_and, Bool.false_and, Bool.and_true, Bool.and_false, Bool.true_or, Bool.false_or, Bool.or_true, Bool.or_false, wr, Option.bind_some, tn_add, tn_add1, tn_sub1, tn_0, tn_1, Int.toNat_natCast, List.nil_append, List.length_append, List.length_take, List.length_drop, List.length_singleton, List.length_nil, hlim]
    rw [List.append_assoc]
  · obtain ⟨j, hj, e⟩ := List.getElem_of_mem hx
    rw [List.length_take] at hj
    rw [List.getElem_take] at e
    have := h2 j (by omega)
    rw [getD_eq ((0, 0, ()) : Int × Int × Unit) (by omega), e] at this
    exact le_of_lt this
  · obtain ⟨j, hj, e⟩ := List.getElem_of_mem hx
    rw [List.length_drop] at hj
    rw [List.getElem_drop] at e
    have h4 := h3 (by omega)
    rw [getD_eq ((0, 0, ()) : Int × Int × Unit) (by omega)] at h4
    by_cases hj0 : j = 0
    · subst hj0; rw [← e]; exact h4
    · rw [← e]
      exact le_trans h4 (List.pairwise_iff_getElem.1 hs q (q + j) (by omega) (by omega) (by omega))
theorem Like.push {y L : List It} (h : Like y L) (hl : y.length < 1000000) (a b : Int) :
    ∃ y' L', timer_Queue_Push.f (y, ()) a b = some ((y', ()), ()) ∧ vokref10_Queue_Push.f (L, ()) a b = some ((L', ()), ()) ∧ Like y' L' ∧ y'.length = y.length + 1 := by
  obtain ⟨y', h1, h2, h3⟩ := Push_spec y hl h.heap a b
  obtain ⟨L', h4, h5, h6⟩ := vpush_spec a b L (by rw [← h.len]; exact hl) h.sorted
  exact ⟨y', L', h1, h4, ⟨h3, h6, h2.trans ((h.perm.cons _).trans h5.symm)⟩, by rw [h2.length_eq]; rfl⟩
theorem Like.pop {y L : List It} (h : Like y L) (hl : y.length ≤ 1000000) (now : Int) :
    ∃ x b y' L', timer_Queue_Pop.f (y, ()) now = some (x, b, (y', ()), ()) ∧ vokref10_Queue_Pop.f (L, ()) now = some (x, b, (L', ()), ()) ∧ Like y' L' ∧ y'.length ≤ y.length := by
  have hlim : limit = 17179869184 := rfl
  have hlen := h.len
  rcases QPop_spec y hl h.heap now with ⟨h1, h2⟩ | ⟨⟨h0, h1⟩, r, h2, h3, h4⟩
  · refine ⟨_, _, _, L, h2, ?_, h, Nat.le_refl _⟩
    rw [vokref10_Queue_Pop.f_eq]
    by_cases h0 : y.length = 0
    · simp (disch := omega) only [dp, dn, decide_true, decide_false, cond_true, cond_false, Bool.not_true, Bool.not_false, Bool.true_and, Bool.false_and, Bool.and_true, Bool.and_false, Bool.true_or, Bool.false_or, Bool.or_true, Bool.or_false, wr, Option.bind_some, tn_add, tn_add1, tn_sub1, tn_0, tn_1, Int.toNat_natCast, vokref10_Queue_Pop.l1_eq]
    · have h1 : (y.getD 0 ((0, 0, ()) : Int × Int × Unit)).1 > now := h1.resolve_left h0
      rw [head_eq h.heap h.sorted h.perm (by omega)] at h1
      simp (disch := omega) only [dp, dn, decide_true, decide_false, cond_true, cond_false, Bool.not_true, Bool.not_false, Bool.true_and, Bool.false_and, Bool.and_true, Bool.and_false, Bool.true_or, Bool.false_or, Bool.or_true, Bool.or_false, wr, Option.bind_some, tn_add, tn_add1, tn_sub1, tn_0, tn_1, Int.toNat_natCast, vokref10_Queue_Pop.l1_eq]
  · have he := head_eq h.heap h.sorted h.perm h0
    have hL : L = y.getD 0 ((0, 0, ()) : Int × Int × Unit) :: L.drop 1 := by rw [he]; exact drop_getD' ((0, 0, ()) : Int × Int × Unit) (l := L) (i := 0) (by omega)
    have hs := h.sorted
    rw [hL] at hs
    refine ⟨_, _, r, L.drop 1, h2, ?_, ⟨h4, (List.pairwise_cons.1 hs).2, ?_⟩, ?_⟩
    · rw [he] at h1 ⊢
      rw [vokref10_Queue_Pop.f_eq]
      simp (disch := omega) only [dp, dn, decide_true, decide_false, cond_true, cond_false, Bool.not_true, Bool.not_false, Bool.true_and, Bool.false_and, Bool.and_true, Bool.and_false, Bool.true_or, Bool.false_or, Bool.or_true, Bool.or_false, wr, Option.bind_some, tn_add, tn_add1, tn_sub1, tn_0, tn_1, Int.toNat_natCast, vokref10_Queue_Pop.l1_eq, List.length_nil, List.length_drop, hlim, List.nil_append]
    · have := h3.symm.trans h.perm
      rw [hL] at this
      exact (List.perm_cons _).1 this
    · rw [h3.length_eq]; simp
theorem vdrop_l1 (o : Int) (l : List It) (hl : l.length ≤ 1000000) : ∀ (k i : Nat) (y : List It), l.length - i = k → i ≤ l.length → y.length ≤ i →
    vokref10_Queue_Drop.l1 o i l y = some ((l.length : Int) - ((y ++ (l.drop i).filter (keepI o)).length : Int), (y ++ (l.drop i).filter (keepI o), ()), ()) := by
  have hlim : limit = 17179869184 := rfl
  intro k
  induction k with
  | zero =>
    intro i y hk hi hy
    have e : i = l.length := by omega
    subst e
    rw [vokref10_Queue_Drop.l1_eq]
    simp (disch := omega) only [dp, dn, decide_true, decide_false, cond_true, cond_false, Bool.not_true, Bool.not_false, Bool.true_and, Bool.false_and, Bool.and_true, Bool.and_false, Bool.true_or, Bool.false_or, Bool.or_true, Bool.or_false, wr, Option.bind_some, tn_add, tn_add1, tn_sub1, tn_0, tn_1, Int.toNat_natCast, List.drop_length, List.filter_nil, List.append_nil]
  | succ k ih =>
    intro i y hk hi hy
    have hlt : i < l.length := by omega
    rw [vokref10_Queue_Drop.l1_eq, drop_getD' ((0, 0, ()) : Int × Int × Unit) hlt, List.filter_cons]
    by_cases ho : (l.getD i ((0, 0, ()) : Int × Int × Unit)).2.1 = o
    · have hf : keepI o (l.getD i ((0, 0, ()) : Int × Int × Unit)) = false := by unfold keepI; simp (disch := omega) only [dp, dn, decide_true, decide_false, cond_true, cond_false, Bool.not_true, Bool.not_false, Bool.true_and, Bool.false_and, Bool.and_true, Bool.and_false, Bool.true_or, Bool.false_or, Bool.or_true, Bool.or_false, wr, Option.bind_some, tn_add, tn_add1, tn_sub1, tn_0, tn_1, Int.toNat_natCast]
      simp (disch := omega) only [dp, dn, decide_true, decide_false, cond_true, cond_false, Bool.not_true, Bool.not_false, Bool.true_and, Bool.false_and, Bool.and_true, Bool.and_false, Bool.true_or, Bool.false_or, Bool.or_true, Bool.or_false, wr, Option.bind_some, tn_add, tn_add1, tn_sub1, tn_0, tn_1, Int.toNat_natCast, hf, Bool.false_eq_true, if_false]
      exact ih (i + 1) y (by omega) (by omega) (by omega)
    · have hf : keepI o (l.getD i ((0, 0, ()) : Int × Int × Unit)) = true := by unfold keepI; simp (disch := omega) only [dp, dn, decide_true, decide_false, cond_true, cond_false, Bool.not_true, Bool.not_false, Bool.true_and, Bool.false_and, Bool.and_true, Bool.and_false, Bool.true_or, Bool.false_or, Bool.or_true, Bool.or_false, wr, Option.bind_some, tn_add, tn_add1, tn_sub1, tn_0, tn_1, Int.toNat_natCast]
      simp (disch := omega) only [dp, dn, decide_true, decide_false, cond_true, cond_false, Bool.not_true, Bool.not_false, Bool.true_and, Bool.false_and, Bool.and_true, Bool.and_false, Bool.true_or, Bool.false_or, Bool.or_true, Bool.or_false, wr, Option.bind_some, tn_add, tn_add1, tn_sub1, tn_0, tn_1, Int.toNat_natCast, hf, if_true, List.length_singleton, hlim]
      exact (ih (i + 1) (y ++ [l.getD i ((0, 0, ()) : Int × Int × Unit)]) (by omega) (by omega) (by simp; omega)).trans (by simp)
theorem vdrop_spec (o : Int) (l : List It) (hl : l.length ≤ 1000000) : vokref10_Queue_Drop.f (l, ()) o = some ((l.length : Int) - ((l.filter (keepI o)).length : Int), (l.filter (keepI o), ()), ()) := by
  rw [vokref10_Queue_Drop.f_eq]
  exact vdrop_l1 o l hl _ 0 [] rfl (Nat.zero_le _) (Nat.le_refl _)
theorem Like.drop {y L : List It} (h : Like y L) (hl : y.length ≤ 1000000) (o : Int) :
    ∃ n y' L', timer_Queue_Drop.f (y, ()) o = some (n, (y', ()), ()) ∧ vokref10_Queue_Drop.f (L, ()) o = some (n, (L', ()), ()) ∧ Like y' L' ∧ y'.length ≤ y.length := by
  obtain ⟨r, h1, h2, h3⟩ := Drop_spec y hl o
  have h4 := vdrop_spec o L (by rw [← h.len]; exact hl)
  have h5 := h.perm.filter (keepI o)
  rw [← h5.length_eq, ← h2.length_eq, ← h.len] at h4
  exact ⟨_, _, _, h1, h4, ⟨h3, h.sorted.filter _, h2.trans h5⟩, by rw [h2.length_eq]; exact List.length_filter_le _ _⟩
/-! ### same -/
theorem same_l2 (L y : List It) (hy : Like y L) (hl : L.length ≤ 1000000) : ∀ (k i : Nat), L.length - i = k → i ≤ L.length → voklaw11_same.l2 L i L y = some (true, (y, ()), (L, ()), ()) := by
  intro k
  induction k with
  | zero =>
    intro i hk hi
    have hlen := hy.len
    rw [voklaw11_same.l2_eq]
    by_cases h0 : y.length = 0
    · have e1 := nil_of_len h0
      have e2 : L = [] := nil_of_len (by omega)
      subst e1 e2
      have hn : vokref10_Queue_Next.f ([], ()) = some (((0, 0, ()) : Int × Int × Unit), false, ([], ()), ()) := by rw [vokref10_Queue_Next.f_eq]; simp (disch := omega) only [dp, dn, decide_true, decide_false, cond_true, cond_false, Bool.not_true, Bool.not_false, Bool.true_and, Bool.false_and, Bool.and_true, Bool.and_false, Bool.true_or, Bool.false_or, Bool.or_true, Bool.or_false, wr, Option.bind_some, tn_add, tn_add1, tn_sub1, tn_0, tn_1, Int.toNat_natCast, List.length_nil, Int.natCast_zero]
      simp (disch := omega) only [dp, dn, decide_true, decide_false, cond_true, cond_false, Bool.not_true, Bool.not_false, Bool.true_and, Bool.false_and, Bool.and_true, Bool.and_false, Bool.true_or, Bool.false_or, Bool.or_true, Bool.or_false, wr, Option.bind_some, tn_add, tn_add1, tn_sub1, tn_0, tn_1, Int.toNat_natCast, Next_nil, hn, List.length_nil, Int.natCast_zero]
      rfl
    · have hN := Next_spec y (by omega)
      have hn : vokref10_Queue_Next.f (L, ()) = some (L.getD 0 ((0, 0, ()) : Int × Int × Unit), true, (L, ()), ()) := by rw [vokref10_Queue_Next.f_eq]; simp (disch := omega) only [dp, dn, decide_true, decide_false, cond_true, cond_false, Bool.not_true, Bool.not_false, Bool.true_and, Bool.false_and, Bool.and_true, Bool.and_false, Bool.true_or, Bool.false_or, Bool.or_true, Bool.or_false, wr, Option.bind_some, tn_add, tn_add1, tn_sub1, tn_0, tn_1, Int.toNat_natCast]
      have he := head_eq hy.heap hy.sorted hy.perm (by omega)
      rw [he] at hN
      simp (disch := omega) only [dp, dn, decide_true, decide_false, cond_true, cond_false, Bool.not_true, Bool.not_false, Bool.true_and, Bool.false_and, Bool.and_true, Bool.and_false, Bool.true_or, Bool.false_or, Bool.or_true, Bool.or_false, wr, Option.bind_some, tn_add, tn_add1, tn_sub1, tn_0, tn_1, Int.toNat_natCast, hN, hn]
      rfl
  | succ k ih =>
    intro i hk hi
    rw [voklaw11_same.l2_eq]
    simp (disch := omega) only [dp, dn, decide_true, decide_false, cond_true, cond_false, Bool.not_true, Bool.not_false, Bool.true_and, Bool.false_and, Bool.and_true, Bool.and_false, Bool.true_or, Bool.false_or, Bool.or_true, Bool.or_false, wr, Option.bind_some, tn_add, tn_add1, tn_sub1, tn_0, tn_1, Int.toNat_natCast, voklaw11_same.l3_eq]
    exact ih (i + 1) (by omega) (by omega)
theorem same_spec {y L : List It} (h : Like y L) (hl : y.length ≤ 1000000) : voklaw11_same.f (y, ()) (L, ()) = some (true, (y, ()), (L, ()), ()) := by
  have hlen := h.len
  obtain ⟨q, h1, h2, h3⟩ := List_spec y hl
  have e : q = L := srt_uniq (h2.trans h.perm) h3 h.sorted
  subst e
  have := same_l2 q y h (by omega) _ 0 rfl (Nat.zero_le _)
  rw [Int.natCast_zero] at this
  rw [voklaw11_same.f_eq]
  simp (disch := omega) only [dp, dn, decide_true, decide_false, cond_true, cond_false, Bool.not_true, Bool.not_false, Bool.true_and, Bool.false_and, Bool.and_true, Bool.and_false, Bool.true_or, Bool.false_or, Bool.or_true, Bool.or_false, wr, Option.bind_some, tn_add, tn_add1, tn_sub1, tn_0, tn_1, Int.toNat_natCast, h1, Len_eq, voklaw11_same.l1_eq, this]
end Go.GV.Ytfddmilldiadeaa
