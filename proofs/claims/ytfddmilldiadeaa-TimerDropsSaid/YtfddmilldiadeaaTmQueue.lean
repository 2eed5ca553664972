/-
timer.Queue: what each call makes of the heap. (This session's own text.)
-/
import Derived.Test.YtfddmilldiadeaaTmSpec
set_option linter.unusedVariables false
set_option linter.unusedSimpArgs false
namespace Go.GV.Ytfddmilldiadeaa
open Go.Proofs
set_option maxRecDepth 1000000 in
theorem first_true : voklaw11_first.f = some (true, ()) := rn_closed (E := E) (f := 9) rfl (D := c9) (c := b9) (by kernel_rfl) (by kernel_rfl) _ 200 (by kernel_rfl)
theorem New_eq : timer_New.f = some (([], ()), ()) := by rw [timer_New.f_eq, timer_New.l1_eq]
theorem up_l1 : ∀ (f j : Nat) (l : List It), j < l.length → l.length ≤ 1000000 → j ≤ f → heap_up.l1 j l = some (((rise f j l, ()), ()), ())
  | 0, j, l, hj, hl, hf => by
    have e : j = 0 := by omega
    subst e
    rw [heap_up.l1_eq, show IntKind.i64.wrap (Int.tdiv (IntKind.i64.wrap (((0 : Nat) : Int) - 1)) 2) = 0 from by decide]
    simp (disch := omega) only [dp, dn, decide_true, decide_false, cond_true, cond_false, Bool.not_true, Bool.not_false, Bool.true_and, Bool.false_and, Bool.and_true, Bool.and_false, Bool.true_or, Bool.false_or, Bool.or_true, Bool.or_false, wr, Option.bind_some, tn_add, tn_add1, tn_sub1, tn_0, tn_1, Int.toNat_natCast]
    rfl
  | f + 1, j, l, hj, hl, hf => by
    rw [heap_up.l1_eq]
    unfold rise
    by_cases h0 : j = 0
    · subst h0
      rw [if_pos rfl, show IntKind.i64.wrap (Int.tdiv (IntKind.i64.wrap (((0 : Nat) : Int) - 1)) 2) = 0 from by decide]
      simp (disch := omega) only [dp, dn, decide_true, decide_false, cond_true, cond_false, Bool.not_true, Bool.not_false, Bool.true_and, Bool.false_and, Bool.and_true, Bool.and_false, Bool.true_or, Bool.false_or, Bool.or_true, Bool.or_false, wr, Option.bind_some, tn_add, tn_add1, tn_sub1, tn_0, tn_1, Int.toNat_natCast]
    · rw [if_neg h0]
      have w1 : IntKind.i64.wrap (Int.tdiv (IntKind.i64.wrap ((j : Int) - 1)) 2) = (((j - 1) / 2 : Nat) : Int) := by
        rw [wr_sub1 (by omega) (by omega), show Int.tdiv ((j - 1 : Nat) : Int) 2 = (((j - 1) / 2 : Nat) : Int) from rfl]
        simp (disch := omega) only [wr]
      have hL := Less_spec l j ((j - 1) / 2) hj (by omega)
      have hS := Swap_spec l ((j - 1) / 2) j (by omega) hj
      rw [w1]
      by_cases c1 : lt (l.getD j ((0, 0, ()) : Int × Int × Unit)) (l.getD ((j - 1) / 2) ((0, 0, ()) : Int × Int × Unit))
      · rw [if_pos c1]
        rw [decide_eq_true c1] at hL
        simp (disch := omega) only [dp, dn, decide_true, decide_false, cond_true, cond_false, Bool.not_true, Bool.not_false, Bool.true_and, Bool.false_and, Bool.and_true, Bool.and_false, Bool.true_or, Bool.false_or, Bool.or_true, Bool.or_false, wr, Option.bind_some, tn_add, tn_add1, tn_sub1, tn_0, tn_1, Int.toNat_natCast, hL, hS]
        exact up_l1 f ((j - 1) / 2) (swp l ((j - 1) / 2) j) (by rw [swp_len]; omega) (by rw [swp_len]; exact hl) (by omega)
      · rw [if_neg c1]
        rw [decide_eq_false c1] at hL
        simp (disch := omega) only [dp, dn, decide_true, decide_false, cond_true, cond_false, Bool.not_true, Bool.not_false, Bool.true_and, Bool.false_and, Bool.and_true, Bool.and_false, Bool.true_or, Bool.false_or, Bool.or_true, Bool.or_false, wr, Option.bind_some, tn_add, tn_add1, tn_sub1, tn_0, tn_1, Int.toNat_natCast, hL]
theorem Push_spec (y : List It) (hl : y.length < 1000000) (h : Hq y) (a b : Int) :
    ∃ r, timer_Queue_Push.f (y, ()) a b = some ((r, ()), ()) ∧ r.Perm ((a, b, ()) :: y) ∧ Hq r := by
  have hlim : limit = 17179869184 := rfl
  have hlen : (y ++ [((a, b, ()) : It)]).length = y.length + 1 := by simp
  have hg : ∀ q, q < y.length → (y ++ [((a, b, ()) : It)]).getD q ((0, 0, ()) : Int × Int × Unit) = y.getD q ((0, 0, ()) : Int × Int × Unit) := fun q hq => by
    rw [List.getD_eq_getElem?_getD, List.getElem?_append_left hq, List.getD_eq_getElem?_getD]
  obtain ⟨h1, h2⟩ := rise_spec y.length (y.length + 1) y.length (y ++ [(a, b, ())]) (by omega) (by omega) (Nat.le_refl _) (fun m m0 mn mj => by
    rw [hg m (by omega), hg ((m - 1) / 2) (by omega)]
    exact h m m0 (by omega) (Nat.zero_le _)) fun m m0 mn mj j0 => by omega
  have hu := up_l1 y.length y.length (y ++ [(a, b, ())]) (by omega) (by omega) (Nat.le_refl _)
  refine ⟨_, ?_, h1.trans (List.perm_append_singleton _ _), ?_⟩
  · have w1 : IntKind.i64.wrap ((((y ++ [((a, b, ()) : It)]).length : Nat) : Int) - 1) = (y.length : Int) := by rw [hlen]; exact wr_pred (by omega)
    rw [timer_Queue_Push.f_eq, heap_Push.f_eq]
    simp (disch := omega) only [dp, dn, decide_true, decide_false, cond_true, cond_false, Bool.not_true, Bool.not_false, Bool.true_and, Bool.false_and, Bool.and_true, Bool.and_false, Bool.true_or, Bool.false_or, Bool.or_true, Bool.or_false, wr, Option.bind_some, tn_add, tn_add1, tn_sub1, tn_0, tn_1, Int.toNat_natCast, timer_items_Push.f_eq, List.length_singleton, hlim, timer_items_Len.f_eq, w1, heap_up.f_eq, hu]
  · unfold Hq
    rw [h1.length_eq, hlen]
    exact h2
theorem Next_nil : timer_Queue_Next.f ([], ()) = some (((0, 0, ()) : Int × Int × Unit), false, ([], ()), ()) := by
  rw [timer_Queue_Next.f_eq]
  simp (disch := omega) only [dp, dn, decide_true, decide_false, cond_true, cond_false, Bool.not_true, Bool.not_false, Bool.true_and, Bool.false_and, Bool.and_true, Bool.and_false, Bool.true_or, Bool.false_or, Bool.or_true, Bool.or_false, wr, Option.bind_some, tn_add, tn_add1, tn_sub1, tn_0, tn_1, Int.toNat_natCast, List.length_nil, Int.natCast_zero]
theorem Next_spec (y : List It) (h : 0 < y.length) : timer_Queue_Next.f (y, ()) = some (y.getD 0 ((0, 0, ()) : Int × Int × Unit), true, (y, ()), ()) := by
  rw [timer_Queue_Next.f_eq]
  simp (disch := omega) only [dp, dn, decide_true, decide_false, cond_true, cond_false, Bool.not_true, Bool.not_false, Bool.true_and, Bool.false_and, Bool.and_true, Bool.and_false, Bool.true_or, Bool.false_or, Bool.or_true, Bool.or_false, wr, Option.bind_some, tn_add, tn_add1, tn_sub1, tn_0, tn_1, Int.toNat_natCast]
theorem nil_of_len {y : List It} (h : y.length = 0) : y = [] := List.length_eq_zero_iff.1 h
/-- Pop: nothing, or the first one. -/
theorem QPop_spec (y : List It) (hl : y.length ≤ 1000000) (h : Hq y) (now : Int) :
    ((y.length = 0 ∨ (y.getD 0 ((0, 0, ()) : Int × Int × Unit)).1 > now) ∧ timer_Queue_Pop.f (y, ()) now = some (((0, 0, ()) : Int × Int × Unit), false, (y, ()), ())) ∨
    ((0 < y.length ∧ (y.getD 0 ((0, 0, ()) : Int × Int × Unit)).1 ≤ now) ∧ ∃ r, timer_Queue_Pop.f (y, ()) now = some (y.getD 0 ((0, 0, ()) : Int × Int × Unit), true, (r, ()), ()) ∧ y.Perm (y.getD 0 ((0, 0, ()) : Int × Int × Unit) :: r) ∧ Hq r) := by
  rw [timer_Queue_Pop.f_eq]
  by_cases h0 : y.length = 0
  · refine .inl ⟨.inl h0, ?_⟩
    rw [nil_of_len h0]
    simp (disch := omega) only [dp, dn, decide_true, decide_false, cond_true, cond_false, Bool.not_true, Bool.not_false, Bool.true_and, Bool.false_and, Bool.and_true, Bool.and_false, Bool.true_or, Bool.false_or, Bool.or_true, Bool.or_false, wr, Option.bind_some, tn_add, tn_add1, tn_sub1, tn_0, tn_1, Int.toNat_natCast, Next_nil]
  · have hN := Next_spec y (by omega)
    by_cases h1 : (y.getD 0 ((0, 0, ()) : Int × Int × Unit)).1 > now
    · refine .inl ⟨.inr h1, ?_⟩
      simp (disch := omega) only [dp, dn, decide_true, decide_false, cond_true, cond_false, Bool.not_true, Bool.not_false, Bool.true_and, Bool.false_and, Bool.and_true, Bool.and_false, Bool.true_or, Bool.false_or, Bool.or_true, Bool.or_false, wr, Option.bind_some, tn_add, tn_add1, tn_sub1, tn_0, tn_1, Int.toNat_natCast, hN]
    · refine .inr ⟨⟨by omega, by omega⟩, ?_⟩
      obtain ⟨x, r, h2, h3, h4⟩ := Pop_1_spec y hl (by omega) h
      refine ⟨r, ?_, h3, h4⟩
      simp (disch := omega) only [dp, dn, decide_true, decide_false, cond_true, cond_false, Bool.not_true, Bool.not_false, Bool.true_and, Bool.false_and, Bool.and_true, Bool.and_false, Bool.true_or, Bool.false_or, Bool.or_true, Bool.or_false, wr, Option.bind_some, tn_add, tn_add1, tn_sub1, tn_0, tn_1, Int.toNat_natCast, hN, h2]
/-! ### List, Copy, Drop -/
theorem List_spec (y : List It) (hl : y.length ≤ 1000000) : ∃ L, timer_Queue_List.f (y, ()) = some (L, (y, ()), ()) ∧ L.Perm y ∧ srt L := by
  have hc : slices_Clone_timer_Item_timer_Item.f y = some (y, ()) := by
    rw [slices_Clone_timer_Item_timer_Item.f_sem]
    show (bif decide (List.length y ≤ limit) then some (y, ()) else none) = _
    rw [dp (by simp only [limit]; omega), cond_true]
  have hs : slices_SortFunc_timer_Item_timer_Item.f y () = some (sortBy ((0, 0, ()) : Int × Int × Unit) cf33 y, (), ()) := by
    rw [slices_SortFunc_timer_Item_timer_Item.f_sem]
    show (bif decide (List.length y ≤ limit) then some (sortBy ((0, 0, ()) : Int × Int × Unit) cf33 y, (), ()) else none) = _
    rw [dp (by simp only [limit]; omega), cond_true]
  refine ⟨sortBy ((0, 0, ()) : Int × Int × Unit) cf33 y, ?_, sortBy_perm _ swo33 y, ?_⟩
  · rw [timer_Queue_List.f_eq]
    simp (disch := omega) only [dp, dn, decide_true, decide_false, cond_true, cond_false, Bool.not_true, Bool.not_false, Bool.true_and, Bool.false_and, Bool.and_true, Bool.and_false, Bool.true_or, Bool.false_or, Bool.or_true, Bool.or_false, wr, Option.bind_some, tn_add, tn_add1, tn_sub1, tn_0, tn_1, Int.toNat_natCast, hc, hs]
  · refine (sortBy_sorted _ swo33 y).imp fun {x y} h => ?_
    have h2 := lt_lex y.1 y.2.1 x.1 x.2.1
    have h3 : decide (lexCmp y.1 y.2.1 x.1 x.2.1 < 0) = false := decide_eq_false h
    rw [h3] at h2
    have := of_decide_eq_false h2.symm
    unfold le lt
    omega
theorem Copy_spec (y : List It) (hl : y.length ≤ 1000000) : timer_Queue_Copy.f (y, ()) = some ((y, ()), (y, ()), ()) := by
  have hc : slices_Clone_timer_items_timer_Item.f y = some (y, ()) := by
    rw [slices_Clone_timer_items_timer_Item.f_sem]
    show (bif decide (List.length y ≤ limit) then some (y, ()) else none) = _
    rw [dp (by simp only [limit]; omega), cond_true]
  rw [timer_Queue_Copy.f_eq]
  simp only [hc, Option.bind_some, timer_Queue_Copy.l1_eq]
theorem Len_eq (y : List It) : timer_Queue_Len.f (y, ()) = some ((y.length : Int), (y, ()), ()) := by rw [timer_Queue_Len.f_eq]
def keepI (o : Int) (t : It) : Bool := !decide (t.2.1 = o)
theorem del_l2 (o : Int) (N : Nat) (hN : N ≤ 1000000) : ∀ (k i j : Nat) (y : List It), y.length = N → N - j = k → i < j → j ≤ N →
    slices_DeleteFunc_timer_items_timer_Item.l2 i j y o = some (y.take i ++ (y.drop j).filter (keepI o), ((o, ()), ()), ()) := by
  intro k
  induction k with
  | zero =>
    intro i j y hy hk hij hj
    have e : j = y.length := by omega
    subst e
    rw [slices_DeleteFunc_timer_items_timer_Item.l2_eq]
    have e2 : (y.take i ++ List.replicate (y.length - i) ((0, 0, ()) : Int × Int × Unit)).take i = y.take i := by
      rw [List.take_append_of_le_length (by rw [List.length_take]; omega), List.take_take, Nat.min_self]
    simp (disch := omega) only [dp, dn, decide_true, decide_false, cond_true, cond_false, Bool.not_true, Bool.not_false, Bool.true_and, Bool.false_and, Bool.and_true, Bool.and_false, Bool.true_or, Bool.false_or, Bool.or_true, Bool.or_false, wr, Option.bind_some, tn_add, tn_add1, tn_sub1, tn_0, tn_1, Int.toNat_natCast, List.drop_length, List.filter_nil, List.append_nil, List.length_append, List.length_take, List.length_replicate, e2, slices_DeleteFunc_timer_items_timer_Item.l3_eq]
  | succ k ih =>
    intro i j y hy hk hij hj
    have hlt : j < y.length := by omega
    rw [slices_DeleteFunc_timer_items_timer_Item.l2_eq, drop_getD' ((0, 0, ()) : Int × Int × Unit) hlt]
    simp (disch := omega) only [dp, dn, decide_true, decide_false, cond_true, cond_false, Bool.not_true, Bool.not_false, Bool.true_and, Bool.false_and, Bool.and_true, Bool.and_false, Bool.true_or, Bool.false_or, Bool.or_true, Bool.or_false, wr, Option.bind_some, tn_add, tn_add1, tn_sub1, tn_0, tn_1, Int.toNat_natCast, timer_Queue_Drop_1.f_eq, List.filter_cons]
    by_cases ho : (y.getD j ((0, 0, ()) : Int × Int × Unit)).2.1 = o
    · have hf : keepI o (y.getD j ((0, 0, ()) : Int × Int × Unit)) = false := by unfold keepI; simp (disch := omega) only [dp, dn, decide_true, decide_false, cond_true, cond_false, Bool.not_true, Bool.not_false, Bool.true_and, Bool.false_and, Bool.and_true, Bool.and_false, Bool.true_or, Bool.false_or, Bool.or_true, Bool.or_false, wr, Option.bind_some, tn_add, tn_add1, tn_sub1, tn_0, tn_1, Int.toNat_natCast]
      simp (disch := omega) only [dp, dn, decide_true, decide_false, cond_true, cond_false, Bool.not_true, Bool.not_false, Bool.true_and, Bool.false_and, Bool.and_true, Bool.and_false, Bool.true_or, Bool.false_or, Bool.or_true, Bool.or_false, wr, Option.bind_some, tn_add, tn_add1, tn_sub1, tn_0, tn_1, Int.toNat_natCast, hf, Bool.false_eq_true, if_false]
      exact ih i (j + 1) y hy (by omega) (by omega) (by omega)
    · have hf : keepI o (y.getD j ((0, 0, ()) : Int × Int × Unit)) = true := by unfold keepI; simp (disch := omega) only [dp, dn, decide_true, decide_false, cond_true, cond_false, Bool.not_true, Bool.not_false, Bool.true_and, Bool.false_and, Bool.and_true, Bool.and_false, Bool.true_or, Bool.false_or, Bool.or_true, Bool.or_false, wr, Option.bind_some, tn_add, tn_add1, tn_sub1, tn_0, tn_1, Int.toNat_natCast]
      simp (disch := omega) only [dp, dn, decide_true, decide_false, cond_true, cond_false, Bool.not_true, Bool.not_false, Bool.true_and, Bool.false_and, Bool.and_true, Bool.and_false, Bool.true_or, Bool.false_or, Bool.or_true, Bool.or_false, wr, Option.bind_some, tn_add, tn_add1, tn_sub1, tn_0, tn_1, Int.toNat_natCast, hf, if_true]
      have hse : (((y.getD j ((0, 0, ()) : Int × Int × Unit)).1, (y.getD j ((0, 0, ()) : Int × Int × Unit)).2.1, ()) : It) = y.getD j ((0, 0, ()) : Int × Int × Unit) := rfl
      rw [hse]
      refine (ih (i + 1) (j + 1) (y.set i (y.getD j ((0, 0, ()) : Int × Int × Unit))) (by simp [hy]) (by omega) (by omega) (by omega)).trans ?_
      rw [take_getD' ((0, 0, ()) : Int × Int × Unit) (show i < (y.set i (y.getD j ((0, 0, ()) : Int × Int × Unit))).length by simp; omega), List.drop_set_of_lt (by omega), List.take_set_of_le (Nat.le_refl i)]
      have : (y.set i (y.getD j ((0, 0, ()) : Int × Int × Unit))).getD i ((0, 0, ()) : Int × Int × Unit) = y.getD j ((0, 0, ()) : Int × Int × Unit) := by rw [getD_eq ((0, 0, ()) : Int × Int × Unit) (show i < (y.set i (y.getD j ((0, 0, ()) : Int × Int × Unit))).length by simp; omega)]; simp
      rw [this]
      simp
theorem del_idx (o : Int) (y : List It) (hN : y.length ≤ 1000000) : ∀ (k i : Nat), y.length - i = k → i ≤ y.length →
    (slices_IndexFunc_timer_items_timer_Item.l1 y y.length i o = some (-1, ((o, ()), ()), ()) ∧ (y.drop i).filter (keepI o) = y.drop i) ∨
    ∃ j : Nat, i ≤ j ∧ j < y.length ∧ slices_IndexFunc_timer_items_timer_Item.l1 y y.length i o = some ((j : Int), ((o, ()), ()), ()) ∧ (y.getD j ((0, 0, ()) : Int × Int × Unit)).2.1 = o ∧ ∀ q, i ≤ q → q < j → (y.getD q ((0, 0, ()) : Int × Int × Unit)).2.1 ≠ o := by
  intro k
  induction k with
  | zero =>
    intro i hk hi
    have e : i = y.length := by omega
    subst e
    refine .inl ⟨?_, by simp⟩
    rw [slices_IndexFunc_timer_items_timer_Item.l1_eq]
    simp (disch := omega) only [dp, dn, decide_true, decide_false, cond_true, cond_false, Bool.not_true, Bool.not_false, Bool.true_and, Bool.false_and, Bool.and_true, Bool.and_false, Bool.true_or, Bool.false_or, Bool.or_true, Bool.or_false, wr, Option.bind_some, tn_add, tn_add1, tn_sub1, tn_0, tn_1, Int.toNat_natCast]
  | succ k ih =>
    intro i hk hi
    have hlt : i < y.length := by omega
    rw [slices_IndexFunc_timer_items_timer_Item.l1_eq, drop_getD' ((0, 0, ()) : Int × Int × Unit) hlt]
    simp (disch := omega) only [dp, dn, decide_true, decide_false, cond_true, cond_false, Bool.not_true, Bool.not_false, Bool.true_and, Bool.false_and, Bool.and_true, Bool.and_false, Bool.true_or, Bool.false_or, Bool.or_true, Bool.or_false, wr, Option.bind_some, tn_add, tn_add1, tn_sub1, tn_0, tn_1, Int.toNat_natCast, timer_Queue_Drop_1.f_eq, List.filter_cons]
    by_cases ho : (y.getD i ((0, 0, ()) : Int × Int × Unit)).2.1 = o
    · simp (disch := omega) only [dp, dn, decide_true, decide_false, cond_true, cond_false, Bool.not_true, Bool.not_false, Bool.true_and, Bool.false_and, Bool.and_true, Bool.and_false, Bool.true_or, Bool.false_or, Bool.or_true, Bool.or_false, wr, Option.bind_some, tn_add, tn_add1, tn_sub1, tn_0, tn_1, Int.toNat_natCast]
      exact .inr ⟨i, Nat.le_refl _, hlt, rfl, ho, fun q h1 h2 => by omega⟩
    · have hf : keepI o (y.getD i ((0, 0, ()) : Int × Int × Unit)) = true := by unfold keepI; simp (disch := omega) only [dp, dn, decide_true, decide_false, cond_true, cond_false, Bool.not_true, Bool.not_false, Bool.true_and, Bool.false_and, Bool.and_true, Bool.and_false, Bool.true_or, Bool.false_or, Bool.or_true, Bool.or_false, wr, Option.bind_some, tn_add, tn_add1, tn_sub1, tn_0, tn_1, Int.toNat_natCast]
      simp (disch := omega) only [dp, dn, decide_true, decide_false, cond_true, cond_false, Bool.not_true, Bool.not_false, Bool.true_and, Bool.false_and, Bool.and_true, Bool.and_false, Bool.true_or, Bool.false_or, Bool.or_true, Bool.or_false, wr, Option.bind_some, tn_add, tn_add1, tn_sub1, tn_0, tn_1, Int.toNat_natCast, hf, if_true]
      rcases ih (i + 1) (by omega) (by omega) with ⟨h1, h2⟩ | ⟨j, h1, h2, h3, h4, h5⟩
      · exact .inl ⟨h1, by rw [h2]⟩
      · refine .inr ⟨j, by omega, h2, h3, h4, fun q h6 h7 => ?_⟩
        by_cases hq : q = i
        · subst hq; exact ho
        · exact h5 q (by omega) h7
theorem filter_take {l : List It} {o : Int} {j : Nat} (hj : j ≤ l.length) (h : ∀ q, q < j → (l.getD q ((0, 0, ()) : Int × Int × Unit)).2.1 ≠ o) : (l.take j).filter (keepI o) = l.take j := by
  rw [List.filter_eq_self]
  intro t ht
  obtain ⟨q, hq, e⟩ := List.getElem_of_mem ht
  rw [List.length_take] at hq
  rw [List.getElem_take] at e
  have := h q (by omega)
  rw [getD_eq ((0, 0, ()) : Int × Int × Unit) (by omega), e] at this
  unfold keepI
  rw [dn this]
  rfl
theorem Drop_spec (y : List It) (hl : y.length ≤ 1000000) (o : Int) : ∃ r, timer_Queue_Drop.f (y, ()) o = some ((y.length : Int) - (r.length : Int), (r, ()), ()) ∧ r.Perm (y.filter (keepI o)) ∧ Hq r := by
  have hd : slices_DeleteFunc_timer_items_timer_Item.f y ((o, ()), ()) = some (y.filter (keepI o), ((o, ()), ()), ()) := by
    rw [slices_DeleteFunc_timer_items_timer_Item.f_eq, slices_IndexFunc_timer_items_timer_Item.f_eq]
    rcases del_idx o y hl _ 0 rfl (Nat.zero_le _) with ⟨h1, h2⟩ | ⟨j, h1, h2, h3, h4, h5⟩
    · rw [show ((0 : Nat) : Int) = 0 from rfl] at h1
      simp only [List.drop_zero] at h2
      simp (disch := omega) only [dp, dn, decide_true, decide_false, cond_true, cond_false, Bool.not_true, Bool.not_false, Bool.true_and, Bool.false_and, Bool.and_true, Bool.and_false, Bool.true_or, Bool.false_or, Bool.or_true, Bool.or_false, wr, Option.bind_some, tn_add, tn_add1, tn_sub1, tn_0, tn_1, Int.toNat_natCast, h1, h2, slices_DeleteFunc_timer_items_timer_Item.l1_eq]
    · rw [show ((0 : Nat) : Int) = 0 from rfl] at h3
      simp (disch := omega) only [dp, dn, decide_true, decide_false, cond_true, cond_false, Bool.not_true, Bool.not_false, Bool.true_and, Bool.false_and, Bool.and_true, Bool.and_false, Bool.true_or, Bool.false_or, Bool.or_true, Bool.or_false, wr, Option.bind_some, tn_add, tn_add1, tn_sub1, tn_0, tn_1, Int.toNat_natCast, h3]
      refine (del_l2 o y.length hl _ j (j + 1) y rfl rfl (by omega) (by omega)).trans ?_
      have hf := filter_take (l := y) (o := o) (by omega) fun q hq => h5 q (Nat.zero_le _) hq
      have hk : keepI o (y.getD j ((0, 0, ()) : Int × Int × Unit)) = false := by unfold keepI; simp (disch := omega) only [dp, dn, decide_true, decide_false, cond_true, cond_false, Bool.not_true, Bool.not_false, Bool.true_and, Bool.false_and, Bool.and_true, Bool.and_false, Bool.true_or, Bool.false_or, Bool.or_true, Bool.or_false, wr, Option.bind_some, tn_add, tn_add1, tn_sub1, tn_0, tn_1, Int.toNat_natCast]
      conv => rhs; rw [← List.take_append_drop j y, List.filter_append, hf, drop_getD' ((0, 0, ()) : Int × Int × Unit) h2, List.filter_cons, hk]
      rfl
  have hle : (y.filter (keepI o)).length ≤ y.length := List.length_filter_le _ _
  obtain ⟨r, h1, h2, h3⟩ := Init_1_spec (y.filter (keepI o)) (by omega)
  have h4 := h2.length_eq
  refine ⟨r, ?_, h2, h3⟩
  rw [timer_Queue_Drop.f_eq]
  simp (disch := omega) only [dp, dn, decide_true, decide_false, cond_true, cond_false, Bool.not_true, Bool.not_false, Bool.true_and, Bool.false_and, Bool.and_true, Bool.and_false, Bool.true_or, Bool.false_or, Bool.or_true, Bool.or_false, wr, Option.bind_some, tn_add, tn_add1, tn_sub1, tn_0, tn_1, Int.toNat_natCast, hd, h1]
end Go.GV.Ytfddmilldiadeaa
