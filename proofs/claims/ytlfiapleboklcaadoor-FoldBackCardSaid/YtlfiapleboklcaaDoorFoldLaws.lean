/-
FoldWrong, FoldCuts, FoldEnds: lines that are put together, and the first byte that may not be. (This session's own text.)
-/
import Derived.Test.YtlfiapleboklcaaDoorFoldSpl
set_option linter.unusedVariables false
set_option linter.unusedSimpArgs false
namespace Go.GV.YtlfiapleboklcaaDoor
open Go.Proofs
/-! ### Good texts -/
def gd : List UInt8 → Bool
  | [] => true
  | c :: r => (plB c.toNat || (decide (c.toNat = 10) || (decide (c.toNat = 13) && decide (r.head? = some 10)))) && gd r
theorem gd_spec : ∀ {l : List UInt8}, gd l = true → ∀ i, i < l.length → plB (chr l i) = true ∨ endsB l i = true
  | [], _, i, hi => by simp at hi
  | c :: r, h, i, hi => by
    simp only [gd, Bool.and_eq_true, Bool.or_eq_true, decide_eq_true_eq] at h
    obtain ⟨h1, h2⟩ := h
    cases i with
    | zero =>
      have hc : chr (c :: r) 0 = c.toNat := rfl
      rcases h1 with h1 | h1 | ⟨h1, h3⟩
      · exact .inl (by rw [hc]; exact h1)
      · exact .inr (by unfold endsB; rw [hc]; simp [h1])
      · refine .inr ?_
        cases r with
        | nil => cases h3
        | cons d r =>
          simp at h3
          have hd : chr (c :: d :: r) (0 + 1) = 10 := by rw [h3]; rfl
          unfold endsB
          rw [hc, h1, hd]
          simp
    | succ i =>
      have ih := gd_spec h2 i (by simpa using hi)
      have e : ∀ j, chr (c :: r) (j + 1) = chr r j := fun j => rfl
      rcases ih with ih | ih
      · exact .inl (by rw [e]; exact ih)
      · refine .inr ?_
        unfold endsB at ih ⊢
        rw [e, e]
        simpa using ih
theorem good_of {l : List UInt8} (h : gd l = true) (h2 : l.head? ≠ some 32) : ∀ i, i < l.length → bad l i = false := by
  intro i hi
  have h3 : (decide (i = 0) && decide (chr l i = 32)) = false := by
    by_cases h0 : i = 0
    · subst h0
      cases l with
      | nil => simp at hi
      | cons c r =>
        have : ¬ chr (c :: r) 0 = 32 := by
          intro e
          refine h2 ?_
          have : c = 32 := UInt8.toNat_inj.1 e
          rw [this]
          rfl
        simp (disch := omega) only [dp, dn, decide_true, decide_false, cond_true, cond_false, Bool.not_true, Bool.not_false, Bool.true_and, Bool.false_and, Bool.and_true, Bool.and_false, Bool.true_or, Bool.false_or, Bool.or_true, Bool.or_false, wr, Option.bind_some, tn_add, tn_add1, tn_sub1, tn_0, tn_1, Int.toNat_natCast, this]
    · simp (disch := omega) only [dp, dn, decide_true, decide_false, cond_true, cond_false, Bool.not_true, Bool.not_false, Bool.true_and, Bool.false_and, Bool.and_true, Bool.and_false, Bool.true_or, Bool.false_or, Bool.or_true, Bool.or_false, wr, Option.bind_some, tn_add, tn_add1, tn_sub1, tn_0, tn_1, Int.toNat_natCast]
  unfold bad
  rcases gd_spec h i hi with h1 | h1 <;> simp [h1, h3]
/-- Plain bytes alone. -/
def allP (l : List UInt8) : Prop := ∀ c ∈ l, 33 ≤ c.toNat ∧ c.toNat ≤ 126
theorem allP_no {l : List UInt8} (h : allP l) {c : UInt8} (hc : c.toNat < 33) : c ∉ l := fun hm => by have := h c hm; omega
theorem gd_plain : ∀ {a b : List UInt8}, allP a → gd b = true → gd (a ++ b) = true
  | [], _, _, h => h
  | c :: a, b, h, hb => by
    have h1 := h c List.mem_cons_self
    have ih := gd_plain (a := a) (b := b) (fun x hx => h x (List.mem_cons_of_mem _ hx)) hb
    rw [List.cons_append]
    simp only [gd, ih, Bool.and_true]
    have : plB c.toNat = true := by unfold plB; simp (disch := omega) only [dp, dn, decide_true, decide_false, cond_true, cond_false, Bool.not_true, Bool.not_false, Bool.true_and, Bool.false_and, Bool.and_true, Bool.and_false, Bool.true_or, Bool.false_or, Bool.or_true, Bool.or_false, wr, Option.bind_some, tn_add, tn_add1, tn_sub1, tn_0, tn_1, Int.toNat_natCast]
    rw [this]
    rfl
theorem allP_last {l : List UInt8} (h : allP l) : l.getLast? ≠ some 13 := fun e => by
  have := h 13 (List.mem_of_getLast? e)
  exact absurd this.1 (by decide)
theorem trim_plain {l : List UInt8} (h : allP l) : trimCR l = l := by unfold trimCR; rw [if_neg (allP_last h)]
theorem allP_take {l : List UInt8} (h : allP l) (k : Nat) : allP (l.take k) := fun c hc => h c (List.mem_of_mem_take hc)
theorem allP_drop {l : List UInt8} (h : allP l) (k : Nat) : allP (l.drop k) := fun c hc => h c (List.mem_of_mem_drop hc)
theorem allP_head {l : List UInt8} (h : allP l) : l.head? ≠ some 32 := fun e => by
  have := h 32 (List.mem_of_head? e)
  exact absurd this.1 (by decide)
/-- An end of a line: 10, or 13 10. -/
def eol (b : Bool) : List UInt8 := if b = true then [13, 10] else [10]
theorem gd_eol (e : Bool) {b : List UInt8} (h : gd b = true) : gd (eol e ++ b) = true := by
  cases e <;> simp [eol, gd, h]
theorem pieces_eol {a : List UInt8} (h : allP a) (e : Bool) (b : List UInt8) : pieces (a ++ (eol e ++ b)) = (a ++ (if e = true then [13] else [])) :: pieces b := by
  have h10 := allP_no h (c := 10) (by decide)
  cases e with
  | false => exact (pieces_some h10).trans (by simp)
  | true =>
    have : a ++ (eol true ++ b) = (a ++ [13]) ++ 10 :: b := by simp [eol]
    rw [this, pieces_some (by simpa using h10)]
    rfl
theorem trim_eol {a : List UInt8} (h : allP a) (e : Bool) : trimCR (a ++ (if e = true then [13] else [])) = a := by
  cases e with
  | false => simpa using trim_plain h
  | true => simp [trimCR]
theorem glue_plain {a : List UInt8} (h : allP a) (acc : List (List UInt8)) : glue acc a = acc ++ [a] := by unfold glue; rw [if_neg (allP_head h)]
/-! ### FoldWrong -/
theorem wrong_l3 {a b : List UInt8} {c : UInt8} (ha : a.length ≤ 2000) (hb : b.length ≤ 2000) (hne : a ≠ []) (hc : ¬ (32 ≤ c.toNat ∧ c.toNat ≤ 126)) (h10 : c.toNat ≠ 10) (h13 : c.toNat ≠ 13) : ∀ (k i : Nat), a.length - i = k → i ≤ a.length → allP (a.take i) →
    voklaw4_FoldWrong.l3 (I a) (I b) (c.toNat : Int) i = some (true, ()) := by
  intro k
  induction k with
  | zero =>
    intro i hk hi h
    have e : i = a.length := by omega
    subst e
    rw [List.take_length] at h
    have hlim : limit = 17179869184 := rfl
    have hI : I a ++ [(c.toNat : Int)] ++ I b = I (a ++ c :: b) := by rw [I_app]; simp [I]
    have hs : fold_Split.f (I (a ++ c :: b)) = some ([], (a.length : Int), 4, ()) := by
      refine fsplit_bad (by simp; omega) (k := a.length) (by simp) ?_ ?_
      · have e1 : chr (a ++ c :: b) a.length = c.toNat := by simp [chr]
        have e2 : plB c.toNat = false := by
          unfold plB
          by_cases h1 : 32 ≤ c.toNat
          · simp (disch := omega) only [dp, dn, decide_true, decide_false, cond_true, cond_false, Bool.not_true, Bool.not_false, Bool.true_and, Bool.false_and, Bool.and_true, Bool.and_false, Bool.true_or, Bool.false_or, Bool.or_true, Bool.or_false, wr, Option.bind_some, tn_add, tn_add1, tn_sub1, tn_0, tn_1, Int.toNat_natCast]
          · simp (disch := omega) only [dp, dn, decide_true, decide_false, cond_true, cond_false, Bool.not_true, Bool.not_false, Bool.true_and, Bool.false_and, Bool.and_true, Bool.and_false, Bool.true_or, Bool.false_or, Bool.or_true, Bool.or_false, wr, Option.bind_some, tn_add, tn_add1, tn_sub1, tn_0, tn_1, Int.toNat_natCast]
        unfold bad endsB
        rw [e1, e2]
        simp (disch := omega) only [dp, dn, decide_true, decide_false, cond_true, cond_false, Bool.not_true, Bool.not_false, Bool.true_and, Bool.false_and, Bool.and_true, Bool.and_false, Bool.true_or, Bool.false_or, Bool.or_true, Bool.or_false, wr, Option.bind_some, tn_add, tn_add1, tn_sub1, tn_0, tn_1, Int.toNat_natCast]
      · intro i hi
        have e1 : chr (a ++ c :: b) i = chr a i := by unfold chr; rw [getD_app_left _ _ _ _ hi]
        have hm : a.getD i 0 ∈ a := by rw [List.getD_eq_getElem?_getD, List.getElem?_eq_getElem hi]; exact List.getElem_mem hi
        have hp := h _ hm
        have e2 : plB (chr a i) = true := by unfold plB chr; simp (disch := omega) only [dp, dn, decide_true, decide_false, cond_true, cond_false, Bool.not_true, Bool.not_false, Bool.true_and, Bool.false_and, Bool.and_true, Bool.and_false, Bool.true_or, Bool.false_or, Bool.or_true, Bool.or_false, wr, Option.bind_some, tn_add, tn_add1, tn_sub1, tn_0, tn_1, Int.toNat_natCast]
        have e3 : ¬ chr a i = 32 := by unfold chr; omega
        unfold bad
        rw [e1, e2]
        simp (disch := omega) only [dp, dn, decide_true, decide_false, cond_true, cond_false, Bool.not_true, Bool.not_false, Bool.true_and, Bool.false_and, Bool.and_true, Bool.and_false, Bool.true_or, Bool.false_or, Bool.or_true, Bool.or_false, wr, Option.bind_some, tn_add, tn_add1, tn_sub1, tn_0, tn_1, Int.toNat_natCast, e3]
    rw [voklaw4_FoldWrong.l3_eq, vokref_CopyBytes.f_eq, first_true]
    simp (disch := omega) only [dp, dn, decide_true, decide_false, cond_true, cond_false, Bool.not_true, Bool.not_false, Bool.true_and, Bool.false_and, Bool.and_true, Bool.and_false, Bool.true_or, Bool.false_or, Bool.or_true, Bool.or_false, wr, Option.bind_some, tn_add, tn_add1, tn_sub1, tn_0, tn_1, Int.toNat_natCast, I_len, List.length_nil, List.nil_append, List.length_append, List.length_cons, hI, hs]
  | succ k ih =>
    intro i hk hi h
    have hlt : i < a.length := by omega
    have hnext : 33 ≤ chr a i → chr a i ≤ 126 → voklaw4_FoldWrong.l3 (I a) (I b) (c.toNat : Int) ((i + 1 : Nat) : Int) = some (true, ()) := by
      intro h1 h2
      refine ih (i + 1) (by omega) (by omega) ?_
      intro x hx
      rw [List.take_add_one, List.getElem?_eq_getElem hlt] at hx
      simp only [Option.toList_some, List.mem_append, List.mem_singleton] at hx
      rcases hx with hx | hx
      · exact h x hx
      · have : chr a i = a[i].toNat := by unfold chr; rw [List.getD_eq_getElem?_getD, List.getElem?_eq_getElem hlt]; rfl
        rw [hx]
        omega
    rw [voklaw4_FoldWrong.l3_eq, I_chr]
    simp (disch := omega) only [dp, dn, decide_true, decide_false, cond_true, cond_false, Bool.not_true, Bool.not_false, Bool.true_and, Bool.false_and, Bool.and_true, Bool.and_false, Bool.true_or, Bool.false_or, Bool.or_true, Bool.or_false, wr, Option.bind_some, tn_add, tn_add1, tn_sub1, tn_0, tn_1, Int.toNat_natCast, I_len]
    by_cases h1 : chr a i < 33
    · simp (disch := omega) only [dp, dn, decide_true, decide_false, cond_true, cond_false, Bool.not_true, Bool.not_false, Bool.true_and, Bool.false_and, Bool.and_true, Bool.and_false, Bool.true_or, Bool.false_or, Bool.or_true, Bool.or_false, wr, Option.bind_some, tn_add, tn_add1, tn_sub1, tn_0, tn_1, Int.toNat_natCast]
      rw [voklaw4_FoldWrong.l4_eq, first_true]
      rfl
    · simp (disch := omega) only [dp, dn, decide_true, decide_false, cond_true, cond_false, Bool.not_true, Bool.not_false, Bool.true_and, Bool.false_and, Bool.and_true, Bool.and_false, Bool.true_or, Bool.false_or, Bool.or_true, Bool.or_false, wr, Option.bind_some, tn_add, tn_add1, tn_sub1, tn_0, tn_1, Int.toNat_natCast]
      by_cases h2 : chr a i > 126
      · simp (disch := omega) only [dp, dn, decide_true, decide_false, cond_true, cond_false, Bool.not_true, Bool.not_false, Bool.true_and, Bool.false_and, Bool.and_true, Bool.and_false, Bool.true_or, Bool.false_or, Bool.or_true, Bool.or_false, wr, Option.bind_some, tn_add, tn_add1, tn_sub1, tn_0, tn_1, Int.toNat_natCast]
        rw [voklaw4_FoldWrong.l4_eq, first_true]
        rfl
      · simp (disch := omega) only [dp, dn, decide_true, decide_false, cond_true, cond_false, Bool.not_true, Bool.not_false, Bool.true_and, Bool.false_and, Bool.and_true, Bool.and_false, Bool.true_or, Bool.false_or, Bool.or_true, Bool.or_false, wr, Option.bind_some, tn_add, tn_add1, tn_sub1, tn_0, tn_1, Int.toNat_natCast]
        rw [voklaw4_FoldWrong.l4_eq]
        simp (disch := omega) only [dp, dn, decide_true, decide_false, cond_true, cond_false, Bool.not_true, Bool.not_false, Bool.true_and, Bool.false_and, Bool.and_true, Bool.and_false, Bool.true_or, Bool.false_or, Bool.or_true, Bool.or_false, wr, Option.bind_some, tn_add, tn_add1, tn_sub1, tn_0, tn_1, Int.toNat_natCast]
        exact hnext (by omega) (by omega)
theorem FoldWrong_pure (a b : List Int) (c : Int) (ok : Tys.Ok (.cons (.row 5 (.int .u8)) (.cons (.row 5 (.int .u8)) (.cons (.int .u8) .nil))) (a, b, c, ())) : voklaw4_FoldWrong.f a b c = some (true, ()) := by
  obtain ⟨⟨_, oa⟩, ⟨_, ob⟩, oc, _⟩ := ok
  have ea := okI oa
  have eb := okI ob
  generalize (a.map fun n => UInt8.ofNat n.toNat) = a' at ea
  generalize (b.map fun n => UInt8.ofNat n.toNat) = b' at eb
  subst ea eb
  obtain ⟨d, rfl⟩ : ∃ d : UInt8, c = (d.toNat : Int) := ⟨UInt8.ofNat c.toNat, by
    have h : (0 : Int) ≤ c ∧ c ≤ 255 := oc
    rw [UInt8.toNat_ofNat']
    omega⟩
  have hb1 : ∀ x : Bool, (x = false → voklaw4_FoldWrong.l2 (I a') (I b') (d.toNat : Int) = some (true, ())) → voklaw4_FoldWrong.l1 (I a') (I b') (d.toNat : Int) x = some (true, ()) := by
    intro x h
    rw [voklaw4_FoldWrong.l1_eq, first_true]
    cases x
    · exact h rfl
    · rfl
  rw [voklaw4_FoldWrong.f_eq, first_true, I_len, I_len]
  simp (disch := omega) only [dp, dn, decide_true, decide_false, cond_true, cond_false, Bool.not_true, Bool.not_false, Bool.true_and, Bool.false_and, Bool.and_true, Bool.and_false, Bool.true_or, Bool.false_or, Bool.or_true, Bool.or_false, wr, Option.bind_some, tn_add, tn_add1, tn_sub1, tn_0, tn_1, Int.toNat_natCast]
  have hfin : a'.length ≤ 2000 → b'.length ≤ 2000 → a'.length ≠ 0 → ¬ (32 ≤ d.toNat ∧ d.toNat ≤ 126) → d.toNat ≠ 10 → d.toNat ≠ 13 → voklaw4_FoldWrong.l2 (I a') (I b') (d.toNat : Int) = some (true, ()) := by
    intro h1 h2 h3 h4 h5 h6
    rw [voklaw4_FoldWrong.l2_eq]
    exact wrong_l3 h1 h2 (fun e => h3 (by rw [e]; rfl)) h4 h5 h6 _ 0 rfl (Nat.zero_le _) (fun c hc => by simp at hc)
  by_cases h1 : a'.length > 2000
  · simp (disch := omega) only [dp, dn, decide_true, decide_false, cond_true, cond_false, Bool.not_true, Bool.not_false, Bool.true_and, Bool.false_and, Bool.and_true, Bool.and_false, Bool.true_or, Bool.false_or, Bool.or_true, Bool.or_false, wr, Option.bind_some, tn_add, tn_add1, tn_sub1, tn_0, tn_1, Int.toNat_natCast]
    exact hb1 true (fun h => by cases h)
  · simp (disch := omega) only [dp, dn, decide_true, decide_false, cond_true, cond_false, Bool.not_true, Bool.not_false, Bool.true_and, Bool.false_and, Bool.and_true, Bool.and_false, Bool.true_or, Bool.false_or, Bool.or_true, Bool.or_false, wr, Option.bind_some, tn_add, tn_add1, tn_sub1, tn_0, tn_1, Int.toNat_natCast]
    by_cases h2 : b'.length > 2000
    · simp (disch := omega) only [dp, dn, decide_true, decide_false, cond_true, cond_false, Bool.not_true, Bool.not_false, Bool.true_and, Bool.false_and, Bool.and_true, Bool.and_false, Bool.true_or, Bool.false_or, Bool.or_true, Bool.or_false, wr, Option.bind_some, tn_add, tn_add1, tn_sub1, tn_0, tn_1, Int.toNat_natCast]
      exact hb1 true (fun h => by cases h)
    · simp (disch := omega) only [dp, dn, decide_true, decide_false, cond_true, cond_false, Bool.not_true, Bool.not_false, Bool.true_and, Bool.false_and, Bool.and_true, Bool.and_false, Bool.true_or, Bool.false_or, Bool.or_true, Bool.or_false, wr, Option.bind_some, tn_add, tn_add1, tn_sub1, tn_0, tn_1, Int.toNat_natCast]
      by_cases h3 : a'.length = 0
      · simp (disch := omega) only [dp, dn, decide_true, decide_false, cond_true, cond_false, Bool.not_true, Bool.not_false, Bool.true_and, Bool.false_and, Bool.and_true, Bool.and_false, Bool.true_or, Bool.false_or, Bool.or_true, Bool.or_false, wr, Option.bind_some, tn_add, tn_add1, tn_sub1, tn_0, tn_1, Int.toNat_natCast, h3]
        exact hb1 true (fun h => by cases h)
      · simp (disch := omega) only [dp, dn, decide_true, decide_false, cond_true, cond_false, Bool.not_true, Bool.not_false, Bool.true_and, Bool.false_and, Bool.and_true, Bool.and_false, Bool.true_or, Bool.false_or, Bool.or_true, Bool.or_false, wr, Option.bind_some, tn_add, tn_add1, tn_sub1, tn_0, tn_1, Int.toNat_natCast]
        have hend : ¬ (32 ≤ d.toNat ∧ d.toNat ≤ 126) → (bif decide ((d.toNat : Int) = 10) then voklaw4_FoldWrong.l1 (I a') (I b') (d.toNat : Int) true else voklaw4_FoldWrong.l1 (I a') (I b') (d.toNat : Int) (decide ((d.toNat : Int) = 13))) = some (true, ()) := by
          intro h4
          by_cases h5 : d.toNat = 10
          · simp (disch := omega) only [dp, dn, decide_true, decide_false, cond_true, cond_false, Bool.not_true, Bool.not_false, Bool.true_and, Bool.false_and, Bool.and_true, Bool.and_false, Bool.true_or, Bool.false_or, Bool.or_true, Bool.or_false, wr, Option.bind_some, tn_add, tn_add1, tn_sub1, tn_0, tn_1, Int.toNat_natCast]
            exact hb1 true (fun h => by cases h)
          · simp (disch := omega) only [dp, dn, decide_true, decide_false, cond_true, cond_false, Bool.not_true, Bool.not_false, Bool.true_and, Bool.false_and, Bool.and_true, Bool.and_false, Bool.true_or, Bool.false_or, Bool.or_true, Bool.or_false, wr, Option.bind_some, tn_add, tn_add1, tn_sub1, tn_0, tn_1, Int.toNat_natCast]
            refine hb1 _ fun h => hfin (by omega) (by omega) h3 h4 h5 ?_
            have := of_decide_eq_false h
            omega
        by_cases h4 : 32 ≤ d.toNat
        · simp (disch := omega) only [dp, dn, decide_true, decide_false, cond_true, cond_false, Bool.not_true, Bool.not_false, Bool.true_and, Bool.false_and, Bool.and_true, Bool.and_false, Bool.true_or, Bool.false_or, Bool.or_true, Bool.or_false, wr, Option.bind_some, tn_add, tn_add1, tn_sub1, tn_0, tn_1, Int.toNat_natCast]
          by_cases h5 : d.toNat ≤ 126
          · simp (disch := omega) only [dp, dn, decide_true, decide_false, cond_true, cond_false, Bool.not_true, Bool.not_false, Bool.true_and, Bool.false_and, Bool.and_true, Bool.and_false, Bool.true_or, Bool.false_or, Bool.or_true, Bool.or_false, wr, Option.bind_some, tn_add, tn_add1, tn_sub1, tn_0, tn_1, Int.toNat_natCast]
            exact hb1 true (fun h => by cases h)
          · simp (disch := omega) only [dp, dn, decide_true, decide_false, cond_true, cond_false, Bool.not_true, Bool.not_false, Bool.true_and, Bool.false_and, Bool.and_true, Bool.and_false, Bool.true_or, Bool.false_or, Bool.or_true, Bool.or_false, wr, Option.bind_some, tn_add, tn_add1, tn_sub1, tn_0, tn_1, Int.toNat_natCast]
            exact hb1 false fun _ => hfin (by omega) (by omega) h3 (by omega) (by omega) (by omega)
        · simp (disch := omega) only [dp, dn, decide_true, decide_false, cond_true, cond_false, Bool.not_true, Bool.not_false, Bool.true_and, Bool.false_and, Bool.and_true, Bool.and_false, Bool.true_or, Bool.false_or, Bool.or_true, Bool.or_false, wr, Option.bind_some, tn_add, tn_add1, tn_sub1, tn_0, tn_1, Int.toNat_natCast]
          exact hend (by omega)
/-! ### FoldCuts -/
theorem lines_one {u v : List UInt8} (hu : allP u) (hv : allP v) (hne : v ≠ []) (e : Bool) : lines [] (pieces (u ++ (eol e ++ 32 :: v))) = [u ++ v] := by
  have h10 := allP_no hv (c := 10) (by decide)
  have h11 : (10 : UInt8) ∉ (32 : UInt8) :: v := by simp [h10]
  have hp1 : pieces (32 :: v) = [32 :: v] := by rw [pieces_none h11, if_neg (by simp)]
  rw [pieces_eol hu, hp1]
  simp only [lines, List.foldl_cons, List.foldl_nil]
  rw [trim_eol hu, glue_plain hu]
  have ht : trimCR (32 :: v) = 32 :: v := by
    unfold trimCR
    rw [if_neg]
    cases v with
    | nil => exact absurd rfl hne
    | cons x y =>
      rw [List.getLast?_cons_cons]
      exact allP_last hv
  rw [ht]
  unfold glue
  rw [if_pos (show (32 :: v).head? = some 32 from rfl)]
  rfl
theorem lines_two {u v : List UInt8} (hu : allP u) (hv : allP v) (e : Bool) : lines [] (pieces (u ++ (eol e ++ (v ++ (eol e ++ []))))) = [u, v] := by
  rw [pieces_eol hu, pieces_eol hv, pieces_none (by simp), if_pos rfl]
  simp only [lines, List.foldl_cons, List.foldl_nil]
  rw [trim_eol hu, trim_eol hv, glue_plain hu, glue_plain hv]
  rfl
theorem cuts_l4 {s : List UInt8} {at_ : Nat} (hs : s.length ≤ 4000) (h1 : 1 ≤ at_) (h2 : at_ < s.length) (hp : allP s) (e : Bool) : voklaw4_FoldCuts.l4 (mkS s) (at_ : Int) (mkS (eol e)) = some (true, ()) := by
  have e1 : (mkS s).extract 0 at_ = mkS (s.take at_) := B_inj (by rw [B_ext0, B_mk, B_mk])
  have e2 : (mkS s).extract at_ (mkS s).size = mkS (s.drop at_) := B_inj (by rw [B_exte, B_mk, B_mk])
  have hu := allP_take hp at_
  have hv := allP_drop hp at_
  have hlu : (s.take at_).length = at_ := by simp; omega
  have hlv : (s.drop at_).length = s.length - at_ := by simp
  have huv : s.take at_ ++ s.drop at_ = s := List.take_append_drop _ _
  have hle : (eol e).length ≤ 2 := by cases e <;> simp [eol]
  generalize s.take at_ = u at *
  generalize s.drop at_ = v at *
  have hvne : v ≠ [] := fun h => by rw [h] at hlv; simp at hlv; omega
  have une : u ≠ [] := fun h => by rw [h] at hlu; simp at hlu; omega
  have hhead : ∀ w, (u ++ w).head? ≠ some 32 := by
    intro w hw
    cases u with
    | nil => exact absurd rfl une
    | cons x y => exact allP_head hu hw
  have hg2 : gd v = true := by simpa using gd_plain hv (b := []) rfl
  have s1 : fold_Split.f (I (u ++ (eol e ++ 32 :: v))) = some ([mkS (u ++ v)], 0, 0, ()) := by
    rw [fsplit_good (by simp; omega) (good_of (gd_plain hu (gd_eol e (by simp [gd, hg2, plB]))) (hhead _)), lines_one hu hv hvne e]
    rfl
  have s2 : fold_Split.f (I (u ++ (eol e ++ (v ++ (eol e ++ []))))) = some ([mkS u, mkS v], 0, 0, ()) := by
    rw [fsplit_good (by simp; omega) (good_of (gd_plain hu (gd_eol e (gd_plain hv (gd_eol e rfl)))) (hhead _)), lines_two hu hv e]
    rfl
  have a1 : u ++ eol e ++ [32] ++ v = u ++ (eol e ++ 32 :: v) := by simp
  have a2 : u ++ eol e ++ v ++ eol e = u ++ (eol e ++ (v ++ (eol e ++ []))) := by simp
  rw [voklaw4_FoldCuts.l4_eq, show (⟨#[32]⟩ : ByteArray) = mkS [32] from rfl]
  simp only [Int.toNat_natCast, e1, e2, mk_app, bytesOf_B, B_mk, a1, a2, s1, s2, first_true]
  simp (disch := omega) only [dp, dn, decide_true, decide_false, cond_true, cond_false, Bool.not_true, Bool.not_false, Bool.true_and, Bool.false_and, Bool.and_true, Bool.and_false, Bool.true_or, Bool.false_or, Bool.or_true, Bool.or_false, wr, Option.bind_some, tn_add, tn_add1, tn_sub1, tn_0, tn_1, Int.toNat_natCast, szS, List.length_append, List.length_cons, List.length_nil, beq_S, List.getD_cons_zero, List.getD_cons_succ, huv]
theorem cuts_l2 {s : List UInt8} {at_ : Nat} (hs : s.length ≤ 4000) (h1 : 1 ≤ at_) (h2 : at_ < s.length) (cr : Bool) : ∀ (k i : Nat), s.length - i = k → i ≤ s.length → allP (s.take i) → voklaw4_FoldCuts.l2 (mkS s) (at_ : Int) cr i = some (true, ()) := by
  intro k
  induction k with
  | zero =>
    intro i hk hi h
    have e : i = s.length := by omega
    subst e
    rw [List.take_length] at h
    rw [voklaw4_FoldCuts.l2_eq]
    simp (disch := omega) only [dp, dn, decide_true, decide_false, cond_true, cond_false, Bool.not_true, Bool.not_false, Bool.true_and, Bool.false_and, Bool.and_true, Bool.and_false, Bool.true_or, Bool.false_or, Bool.or_true, Bool.or_false, wr, Option.bind_some, tn_add, tn_add1, tn_sub1, tn_0, tn_1, Int.toNat_natCast, szS]
    cases cr
    · exact cuts_l4 hs h1 h2 h false
    · exact cuts_l4 hs h1 h2 h true
  | succ k ih =>
    intro i hk hi h
    have hlt : i < s.length := by omega
    have hnext : 33 ≤ chr s i → chr s i ≤ 126 → voklaw4_FoldCuts.l2 (mkS s) (at_ : Int) cr ((i + 1 : Nat) : Int) = some (true, ()) := by
      intro h1 h2
      refine ih (i + 1) (by omega) (by omega) ?_
      intro x hx
      rw [List.take_add_one, List.getElem?_eq_getElem hlt] at hx
      simp only [Option.toList_some, List.mem_append, List.mem_singleton] at hx
      rcases hx with hx | hx
      · exact h x hx
      · have : chr s i = s[i].toNat := by unfold chr; rw [List.getD_eq_getElem?_getD, List.getElem?_eq_getElem hlt]; rfl
        rw [hx]
        omega
    have hb : bt (mkS s) (i : Int) = (chr s i : Int) := rfl
    rw [voklaw4_FoldCuts.l2_eq, hb]
    simp (disch := omega) only [dp, dn, decide_true, decide_false, cond_true, cond_false, Bool.not_true, Bool.not_false, Bool.true_and, Bool.false_and, Bool.and_true, Bool.and_false, Bool.true_or, Bool.false_or, Bool.or_true, Bool.or_false, wr, Option.bind_some, tn_add, tn_add1, tn_sub1, tn_0, tn_1, Int.toNat_natCast, szS]
    by_cases h1 : chr s i < 33
    · simp (disch := omega) only [dp, dn, decide_true, decide_false, cond_true, cond_false, Bool.not_true, Bool.not_false, Bool.true_and, Bool.false_and, Bool.and_true, Bool.and_false, Bool.true_or, Bool.false_or, Bool.or_true, Bool.or_false, wr, Option.bind_some, tn_add, tn_add1, tn_sub1, tn_0, tn_1, Int.toNat_natCast]
      rw [voklaw4_FoldCuts.l3_eq, first_true]
      rfl
    · simp (disch := omega) only [dp, dn, decide_true, decide_false, cond_true, cond_false, Bool.not_true, Bool.not_false, Bool.true_and, Bool.false_and, Bool.and_true, Bool.and_false, Bool.true_or, Bool.false_or, Bool.or_true, Bool.or_false, wr, Option.bind_some, tn_add, tn_add1, tn_sub1, tn_0, tn_1, Int.toNat_natCast]
      by_cases h2 : chr s i > 126
      · simp (disch := omega) only [dp, dn, decide_true, decide_false, cond_true, cond_false, Bool.not_true, Bool.not_false, Bool.true_and, Bool.false_and, Bool.and_true, Bool.and_false, Bool.true_or, Bool.false_or, Bool.or_true, Bool.or_false, wr, Option.bind_some, tn_add, tn_add1, tn_sub1, tn_0, tn_1, Int.toNat_natCast]
        rw [voklaw4_FoldCuts.l3_eq, first_true]
        rfl
      · simp (disch := omega) only [dp, dn, decide_true, decide_false, cond_true, cond_false, Bool.not_true, Bool.not_false, Bool.true_and, Bool.false_and, Bool.and_true, Bool.and_false, Bool.true_or, Bool.false_or, Bool.or_true, Bool.or_false, wr, Option.bind_some, tn_add, tn_add1, tn_sub1, tn_0, tn_1, Int.toNat_natCast]
        rw [voklaw4_FoldCuts.l3_eq]
        simp (disch := omega) only [dp, dn, decide_true, decide_false, cond_true, cond_false, Bool.not_true, Bool.not_false, Bool.true_and, Bool.false_and, Bool.and_true, Bool.and_false, Bool.true_or, Bool.false_or, Bool.or_true, Bool.or_false, wr, Option.bind_some, tn_add, tn_add1, tn_sub1, tn_0, tn_1, Int.toNat_natCast]
        exact hnext (by omega) (by omega)
theorem FoldCuts_pure (s : ByteArray) (at_ : Int) (cr : Bool) : voklaw4_FoldCuts.f s at_ cr = some (true, ()) := by
  have hb1 : ∀ x : Bool, (x = false → voklaw4_FoldCuts.l2 s at_ cr 0 = some (true, ())) → voklaw4_FoldCuts.l1 s at_ cr x = some (true, ()) := by
    intro x h
    rw [voklaw4_FoldCuts.l1_eq, first_true]
    cases x
    · exact h rfl
    · rfl
  rw [voklaw4_FoldCuts.f_eq, first_true]
  simp (disch := omega) only [dp, dn, decide_true, decide_false, cond_true, cond_false, Bool.not_true, Bool.not_false, Bool.true_and, Bool.false_and, Bool.and_true, Bool.and_false, Bool.true_or, Bool.false_or, Bool.or_true, Bool.or_false, wr, Option.bind_some, tn_add, tn_add1, tn_sub1, tn_0, tn_1, Int.toNat_natCast]
  by_cases h1 : (s.size : Int) > 4000
  · simp (disch := omega) only [dp, dn, decide_true, decide_false, cond_true, cond_false, Bool.not_true, Bool.not_false, Bool.true_and, Bool.false_and, Bool.and_true, Bool.and_false, Bool.true_or, Bool.false_or, Bool.or_true, Bool.or_false, wr, Option.bind_some, tn_add, tn_add1, tn_sub1, tn_0, tn_1, Int.toNat_natCast]
    exact hb1 true (fun h => by cases h)
  · simp (disch := omega) only [dp, dn, decide_true, decide_false, cond_true, cond_false, Bool.not_true, Bool.not_false, Bool.true_and, Bool.false_and, Bool.and_true, Bool.and_false, Bool.true_or, Bool.false_or, Bool.or_true, Bool.or_false, wr, Option.bind_some, tn_add, tn_add1, tn_sub1, tn_0, tn_1, Int.toNat_natCast]
    by_cases h2 : at_ < 1
    · simp (disch := omega) only [dp, dn, decide_true, decide_false, cond_true, cond_false, Bool.not_true, Bool.not_false, Bool.true_and, Bool.false_and, Bool.and_true, Bool.and_false, Bool.true_or, Bool.false_or, Bool.or_true, Bool.or_false, wr, Option.bind_some, tn_add, tn_add1, tn_sub1, tn_0, tn_1, Int.toNat_natCast]
      exact hb1 true (fun h => by cases h)
    · simp (disch := omega) only [dp, dn, decide_true, decide_false, cond_true, cond_false, Bool.not_true, Bool.not_false, Bool.true_and, Bool.false_and, Bool.and_true, Bool.and_false, Bool.true_or, Bool.false_or, Bool.or_true, Bool.or_false, wr, Option.bind_some, tn_add, tn_add1, tn_sub1, tn_0, tn_1, Int.toNat_natCast]
      refine hb1 _ fun h => ?_
      have h3 := of_decide_eq_false h
      obtain ⟨n, rfl⟩ := Int.eq_ofNat_of_zero_le (show 0 ≤ at_ by omega)
      rw [size_B] at h1 h3
      exact cuts_l2 (s := B s) (by omega) (by omega) (by omega) cr _ 0 rfl (Nat.zero_le _) (fun c hc => by simp at hc)
end Go.GV.YtlfiapleboklcaaDoor
