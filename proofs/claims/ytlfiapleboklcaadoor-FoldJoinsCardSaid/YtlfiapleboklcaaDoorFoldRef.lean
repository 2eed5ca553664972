/-
The document's answers of chapter 4 to Split and Name; FoldSplits. (This session's own text.)
-/
import Derived.Test.YtlfiapleboklcaaDoorFoldEnds
set_option linter.unusedVariables false
set_option linter.unusedSimpArgs false
namespace Go.GV.YtlfiapleboklcaaDoor
open Go.Proofs
/-! ### The first byte that may not be -/
theorem ref_step (l : List UInt8) (i : Nat) (hi : i < l.length) (hl : l.length < 4611686018427387904) :
    vokref4_Split.l1 (I l) i = if bad l i = true then some ([], (i : Int), 4, ()) else vokref4_Split.l1 (I l) ((i + 1 : Nat) : Int) := by
  obtain ⟨X, hX⟩ : ∃ X, X = (if bad l i = true then some (([] : List ByteArray), (i : Int), (4 : Int), ()) else vokref4_Split.l1 (I l) ((i + 1 : Nat) : Int)) := ⟨_, rfl⟩
  rw [← hX]
  have h3 : ∀ b : Bool, b = bad l i → vokref4_Split.l3 (I l) i b = X := by
    rintro b rfl
    rw [vokref4_Split.l3_eq, hX]
    cases bad l i
    · simp (disch := omega) only [dp, dn, decide_true, decide_false, cond_true, cond_false, Bool.not_true, Bool.not_false, Bool.true_and, Bool.false_and, Bool.and_true, Bool.and_false, Bool.true_or, Bool.false_or, Bool.or_true, Bool.or_false, wr, Option.bind_some, tn_add, tn_add1, tn_sub1, tn_0, tn_1, Int.toNat_natCast, Int.natCast_add, Int.natCast_one]
      rfl
    · rfl
  have key : ∀ e : Bool, e = (plB (chr l i) || endsB l i) → vokref4_Split.l2 (I l) i e = X := by
    rintro e rfl
    rw [vokref4_Split.l2_eq]
    simp only [I_len, I_chr, Int.toNat_natCast]
    cases hp : (plB (chr l i) || endsB l i) with
    | true =>
      have hb : bad l i = (decide (i = 0) && decide (chr l i = 32)) := by
        unfold bad
        cases h1 : plB (chr l i) <;> cases h2 : endsB l i <;> simp_all
      by_cases h0 : i = 0
      · by_cases hc : chr l i = 32
        · simp (disch := omega) only [dp, dn, decide_true, decide_false, cond_true, cond_false, Bool.not_true, Bool.not_false, Bool.true_and, Bool.false_and, Bool.and_true, Bool.and_false, Bool.true_or, Bool.false_or, Bool.or_true, Bool.or_false, wr, Option.bind_some, tn_add, tn_add1, tn_sub1, tn_0, tn_1, Int.toNat_natCast]
          exact h3 true (by rw [hb]; simp (disch := omega) only [dp, dn, decide_true, decide_false, cond_true, cond_false, Bool.not_true, Bool.not_false, Bool.true_and, Bool.false_and, Bool.and_true, Bool.and_false, Bool.true_or, Bool.false_or, Bool.or_true, Bool.or_false, wr, Option.bind_some, tn_add, tn_add1, tn_sub1, tn_0, tn_1, Int.toNat_natCast])
        · simp (disch := omega) only [dp, dn, decide_true, decide_false, cond_true, cond_false, Bool.not_true, Bool.not_false, Bool.true_and, Bool.false_and, Bool.and_true, Bool.and_false, Bool.true_or, Bool.false_or, Bool.or_true, Bool.or_false, wr, Option.bind_some, tn_add, tn_add1, tn_sub1, tn_0, tn_1, Int.toNat_natCast]
          exact h3 false (by rw [hb]; simp (disch := omega) only [dp, dn, decide_true, decide_false, cond_true, cond_false, Bool.not_true, Bool.not_false, Bool.true_and, Bool.false_and, Bool.and_true, Bool.and_false, Bool.true_or, Bool.false_or, Bool.or_true, Bool.or_false, wr, Option.bind_some, tn_add, tn_add1, tn_sub1, tn_0, tn_1, Int.toNat_natCast])
      · simp (disch := omega) only [dp, dn, decide_true, decide_false, cond_true, cond_false, Bool.not_true, Bool.not_false, Bool.true_and, Bool.false_and, Bool.and_true, Bool.and_false, Bool.true_or, Bool.false_or, Bool.or_true, Bool.or_false, wr, Option.bind_some, tn_add, tn_add1, tn_sub1, tn_0, tn_1, Int.toNat_natCast]
        exact h3 false (by rw [hb]; simp (disch := omega) only [dp, dn, decide_true, decide_false, cond_true, cond_false, Bool.not_true, Bool.not_false, Bool.true_and, Bool.false_and, Bool.and_true, Bool.and_false, Bool.true_or, Bool.false_or, Bool.or_true, Bool.or_false, wr, Option.bind_some, tn_add, tn_add1, tn_sub1, tn_0, tn_1, Int.toNat_natCast])
    | false =>
      have hb : bad l i = true := by
        unfold bad
        cases h1 : plB (chr l i) <;> cases h2 : endsB l i <;> simp_all
      simp (disch := omega) only [dp, dn, decide_true, decide_false, cond_true, cond_false, Bool.not_true, Bool.not_false, Bool.true_and, Bool.false_and, Bool.and_true, Bool.and_false, Bool.true_or, Bool.false_or, Bool.or_true, Bool.or_false, wr, Option.bind_some, tn_add, tn_add1, tn_sub1, tn_0, tn_1, Int.toNat_natCast]
      exact h3 true hb.symm
  rw [vokref4_Split.l1_eq]
  have htail : ∀ b : Bool, plB (chr l i) = false → (bif decide ((chr l i : Int) = 10) then vokref4_Split.l2 (I l) i true else
      bif decide ((chr l i : Int) = 13) then (bif decide ((i : Int) + 1 < (l.length : Int)) then vokref4_Split.l2 (I l) i (decide ((chr l (i + 1) : Int) = 10)) else vokref4_Split.l2 (I l) i false) else vokref4_Split.l2 (I l) i false) = X := by
    intro _ hp
    by_cases h10 : chr l i = 10
    · simp (disch := omega) only [dp, dn, decide_true, decide_false, cond_true, cond_false, Bool.not_true, Bool.not_false, Bool.true_and, Bool.false_and, Bool.and_true, Bool.and_false, Bool.true_or, Bool.false_or, Bool.or_true, Bool.or_false, wr, Option.bind_some, tn_add, tn_add1, tn_sub1, tn_0, tn_1, Int.toNat_natCast]
      exact key true (by unfold endsB; simp (disch := omega) only [dp, dn, decide_true, decide_false, cond_true, cond_false, Bool.not_true, Bool.not_false, Bool.true_and, Bool.false_and, Bool.and_true, Bool.and_false, Bool.true_or, Bool.false_or, Bool.or_true, Bool.or_false, wr, Option.bind_some, tn_add, tn_add1, tn_sub1, tn_0, tn_1, Int.toNat_natCast, hp])
    · simp (disch := omega) only [dp, dn, decide_true, decide_false, cond_true, cond_false, Bool.not_true, Bool.not_false, Bool.true_and, Bool.false_and, Bool.and_true, Bool.and_false, Bool.true_or, Bool.false_or, Bool.or_true, Bool.or_false, wr, Option.bind_some, tn_add, tn_add1, tn_sub1, tn_0, tn_1, Int.toNat_natCast]
      by_cases h13 : chr l i = 13
      · simp (disch := omega) only [dp, dn, decide_true, decide_false, cond_true, cond_false, Bool.not_true, Bool.not_false, Bool.true_and, Bool.false_and, Bool.and_true, Bool.and_false, Bool.true_or, Bool.false_or, Bool.or_true, Bool.or_false, wr, Option.bind_some, tn_add, tn_add1, tn_sub1, tn_0, tn_1, Int.toNat_natCast]
        by_cases hn : i + 1 < l.length
        · simp (disch := omega) only [dp, dn, decide_true, decide_false, cond_true, cond_false, Bool.not_true, Bool.not_false, Bool.true_and, Bool.false_and, Bool.and_true, Bool.and_false, Bool.true_or, Bool.false_or, Bool.or_true, Bool.or_false, wr, Option.bind_some, tn_add, tn_add1, tn_sub1, tn_0, tn_1, Int.toNat_natCast]
          by_cases hc : chr l (i + 1) = 10
          · simp (disch := omega) only [dp, dn, decide_true, decide_false, cond_true, cond_false, Bool.not_true, Bool.not_false, Bool.true_and, Bool.false_and, Bool.and_true, Bool.and_false, Bool.true_or, Bool.false_or, Bool.or_true, Bool.or_false, wr, Option.bind_some, tn_add, tn_add1, tn_sub1, tn_0, tn_1, Int.toNat_natCast]
            exact key true (by unfold endsB; simp (disch := omega) only [dp, dn, decide_true, decide_false, cond_true, cond_false, Bool.not_true, Bool.not_false, Bool.true_and, Bool.false_and, Bool.and_true, Bool.and_false, Bool.true_or, Bool.false_or, Bool.or_true, Bool.or_false, wr, Option.bind_some, tn_add, tn_add1, tn_sub1, tn_0, tn_1, Int.toNat_natCast, hp])
          · simp (disch := omega) only [dp, dn, decide_true, decide_false, cond_true, cond_false, Bool.not_true, Bool.not_false, Bool.true_and, Bool.false_and, Bool.and_true, Bool.and_false, Bool.true_or, Bool.false_or, Bool.or_true, Bool.or_false, wr, Option.bind_some, tn_add, tn_add1, tn_sub1, tn_0, tn_1, Int.toNat_natCast]
            exact key false (by unfold endsB; simp (disch := omega) only [dp, dn, decide_true, decide_false, cond_true, cond_false, Bool.not_true, Bool.not_false, Bool.true_and, Bool.false_and, Bool.and_true, Bool.and_false, Bool.true_or, Bool.false_or, Bool.or_true, Bool.or_false, wr, Option.bind_some, tn_add, tn_add1, tn_sub1, tn_0, tn_1, Int.toNat_natCast, hp])
        · simp (disch := omega) only [dp, dn, decide_true, decide_false, cond_true, cond_false, Bool.not_true, Bool.not_false, Bool.true_and, Bool.false_and, Bool.and_true, Bool.and_false, Bool.true_or, Bool.false_or, Bool.or_true, Bool.or_false, wr, Option.bind_some, tn_add, tn_add1, tn_sub1, tn_0, tn_1, Int.toNat_natCast]
          exact key false (by unfold endsB; simp (disch := omega) only [dp, dn, decide_true, decide_false, cond_true, cond_false, Bool.not_true, Bool.not_false, Bool.true_and, Bool.false_and, Bool.and_true, Bool.and_false, Bool.true_or, Bool.false_or, Bool.or_true, Bool.or_false, wr, Option.bind_some, tn_add, tn_add1, tn_sub1, tn_0, tn_1, Int.toNat_natCast, hp])
      · simp (disch := omega) only [dp, dn, decide_true, decide_false, cond_true, cond_false, Bool.not_true, Bool.not_false, Bool.true_and, Bool.false_and, Bool.and_true, Bool.and_false, Bool.true_or, Bool.false_or, Bool.or_true, Bool.or_false, wr, Option.bind_some, tn_add, tn_add1, tn_sub1, tn_0, tn_1, Int.toNat_natCast]
        exact key false (by unfold endsB; simp (disch := omega) only [dp, dn, decide_true, decide_false, cond_true, cond_false, Bool.not_true, Bool.not_false, Bool.true_and, Bool.false_and, Bool.and_true, Bool.and_false, Bool.true_or, Bool.false_or, Bool.or_true, Bool.or_false, wr, Option.bind_some, tn_add, tn_add1, tn_sub1, tn_0, tn_1, Int.toNat_natCast, hp])
  have hw : ((i : Int) + 1).toNat = i + 1 := by omega
  by_cases h32 : 32 ≤ chr l i
  · by_cases h126 : chr l i ≤ 126
    · simp (disch := omega) only [dp, dn, decide_true, decide_false, cond_true, cond_false, Bool.not_true, Bool.not_false, Bool.true_and, Bool.false_and, Bool.and_true, Bool.and_false, Bool.true_or, Bool.false_or, Bool.or_true, Bool.or_false, wr, Option.bind_some, tn_add, tn_add1, tn_sub1, tn_0, tn_1, Int.toNat_natCast, I_len, I_chr]
      exact key true (by unfold plB; simp (disch := omega) only [dp, dn, decide_true, decide_false, cond_true, cond_false, Bool.not_true, Bool.not_false, Bool.true_and, Bool.false_and, Bool.and_true, Bool.and_false, Bool.true_or, Bool.false_or, Bool.or_true, Bool.or_false, wr, Option.bind_some, tn_add, tn_add1, tn_sub1, tn_0, tn_1, Int.toNat_natCast])
    · have hp : plB (chr l i) = false := by unfold plB; simp (disch := omega) only [dp, dn, decide_true, decide_false, cond_true, cond_false, Bool.not_true, Bool.not_false, Bool.true_and, Bool.false_and, Bool.and_true, Bool.and_false, Bool.true_or, Bool.false_or, Bool.or_true, Bool.or_false, wr, Option.bind_some, tn_add, tn_add1, tn_sub1, tn_0, tn_1, Int.toNat_natCast]
      have := htail true hp
      by_cases h10 : chr l i = 10
      · omega
      · by_cases h13 : chr l i = 13
        · omega
        · simp (disch := omega) only [dp, dn, cond_true, cond_false] at this
          simp (disch := omega) only [dp, dn, decide_true, decide_false, cond_true, cond_false, Bool.not_true, Bool.not_false, Bool.true_and, Bool.false_and, Bool.and_true, Bool.and_false, Bool.true_or, Bool.false_or, Bool.or_true, Bool.or_false, wr, Option.bind_some, tn_add, tn_add1, tn_sub1, tn_0, tn_1, Int.toNat_natCast, I_len, I_chr]
          exact this
  · have hp : plB (chr l i) = false := by unfold plB; simp (disch := omega) only [dp, dn, decide_true, decide_false, cond_true, cond_false, Bool.not_true, Bool.not_false, Bool.true_and, Bool.false_and, Bool.and_true, Bool.and_false, Bool.true_or, Bool.false_or, Bool.or_true, Bool.or_false, wr, Option.bind_some, tn_add, tn_add1, tn_sub1, tn_0, tn_1, Int.toNat_natCast]
    have := htail true hp
    by_cases h10 : chr l i = 10
    · simp (disch := omega) only [dp, dn, cond_true, cond_false] at this
      simp (disch := omega) only [dp, dn, decide_true, decide_false, cond_true, cond_false, Bool.not_true, Bool.not_false, Bool.true_and, Bool.false_and, Bool.and_true, Bool.and_false, Bool.true_or, Bool.false_or, Bool.or_true, Bool.or_false, wr, Option.bind_some, tn_add, tn_add1, tn_sub1, tn_0, tn_1, Int.toNat_natCast, I_len, I_chr]
      exact this
    · by_cases h13 : chr l i = 13
      · by_cases hn : i + 1 < l.length
        · simp (disch := omega) only [dp, dn, cond_true, cond_false] at this
          simp (disch := omega) only [I_len, I_chr, wr, hw, dp, dn, cond_true, cond_false, Int.toNat_natCast]
          exact this
        · simp (disch := omega) only [dp, dn, cond_true, cond_false] at this
          simp (disch := omega) only [dp, dn, decide_true, decide_false, cond_true, cond_false, Bool.not_true, Bool.not_false, Bool.true_and, Bool.false_and, Bool.and_true, Bool.and_false, Bool.true_or, Bool.false_or, Bool.or_true, Bool.or_false, wr, Option.bind_some, tn_add, tn_add1, tn_sub1, tn_0, tn_1, Int.toNat_natCast, I_len, I_chr]
          exact this
      · simp (disch := omega) only [dp, dn, cond_true, cond_false] at this
        simp (disch := omega) only [dp, dn, decide_true, decide_false, cond_true, cond_false, Bool.not_true, Bool.not_false, Bool.true_and, Bool.false_and, Bool.and_true, Bool.and_false, Bool.true_or, Bool.false_or, Bool.or_true, Bool.or_false, wr, Option.bind_some, tn_add, tn_add1, tn_sub1, tn_0, tn_1, Int.toNat_natCast, I_len, I_chr]
        exact this
/-! ### Lines -/
theorem ref_l9 (l : List UInt8) (i : Nat) (t : List UInt8) (acc : List (List UInt8)) (hi : i ≤ l.length) (hl : l.length ≤ 4096) (ht : t.length ≤ 4096) (hz : tot acc ≤ 5000) (hla : acc.length ≤ 5000) (hacc : acc = [] → t.head? ≠ some 32) :
    vokref4_Split.l9 (I l) i (mkS t) (decide (t.head? = some 32)) (acc.map mkS) = vokref4_Split.l4 (I l) ((i + 1 : Nat) : Int) ((i + 1 : Nat) : Int) ((glue acc t).map mkS) := by
  rw [vokref4_Split.l9_eq]
  have hlim : limit = 17179869184 := rfl
  by_cases h : t.head? = some 32
  · rw [dp h]
    rcases List.eq_nil_or_concat acc with rfl | ⟨a, b, he⟩
    · exact absurd h (hacc rfl)
    · rw [List.concat_eq_append] at he
      subst he
      have hlen : (a ++ [b]).length = a.length + 1 := by simp
      obtain ⟨t', rfl⟩ : ∃ t', t = 32 :: t' := by cases t with
        | nil => cases h
        | cons x y => simp at h; exact ⟨y, by rw [h]⟩
      rw [tot_app, tot_cons] at hz
      have hlt : (32 :: t').length = t'.length + 1 := rfl
      have e1 : (mkS (32 :: t')).extract 1 (t'.length + 1) = mkS t' := B_inj (by rw [← hlt, ← szS, B_exte]; rfl)
      rw [List.length_map, hlen]
      have hsb : (mkS b).size = b.length := szS b
      have hst : (mkS t').size = t'.length := szS t'
      have hss : (mkS (32 :: t')).size = t'.length + 1 := szS _
      simp only [cond_true, tn_sub1, Nat.add_sub_cancel, hss]
      simp (disch := omega) only [dp, dn, decide_true, decide_false, cond_true, cond_false, Bool.not_true, Bool.not_false, Bool.true_and, Bool.false_and, Bool.and_true, Bool.and_false, Bool.true_or, Bool.false_or, Bool.or_true, Bool.or_false, wr, Option.bind_some, tn_add, tn_add1, tn_sub1, tn_0, tn_1, Int.toNat_natCast, Nat.add_sub_cancel]
      simp only [e1, getD_last]
      simp (disch := omega) only [dp, dn, decide_true, decide_false, cond_true, cond_false, Bool.not_true, Bool.not_false, Bool.true_and, Bool.false_and, Bool.and_true, Bool.and_false, Bool.true_or, Bool.false_or, Bool.or_true, Bool.or_false, wr, Option.bind_some, tn_add, tn_add1, tn_sub1, tn_0, tn_1, Int.toNat_natCast, hsb, hst, mk_app, Int.natCast_add, Int.natCast_one]
      unfold glue
      rw [if_pos h]
      simp [List.set_append_right]
  · rw [dn h]
    simp (disch := omega) only [dp, dn, decide_true, decide_false, cond_true, cond_false, Bool.not_true, Bool.not_false, Bool.true_and, Bool.false_and, Bool.and_true, Bool.and_false, Bool.true_or, Bool.false_or, Bool.or_true, Bool.or_false, wr, Option.bind_some, tn_add, tn_add1, tn_sub1, tn_0, tn_1, Int.toNat_natCast, List.length_map, List.length_cons, List.length_nil, Int.natCast_add, Int.natCast_one]
    unfold glue
    rw [if_neg h]
    simp
theorem take_drop_I (l : List UInt8) (a b : Nat) : strOf (((I l).take b).drop a) = mkS ((l.take b).drop a) := by rw [I_take, I_drop, strOf_I]
theorem ref_l8 (l : List UInt8) (i f to : Nat) (acc : List (List UInt8)) (hf : f ≤ to) (hto : to ≤ l.length) (hi : i ≤ l.length) (hl : l.length ≤ 4096) (hz : tot acc ≤ 5000) (hla : acc.length ≤ 5000) (hacc : acc = [] → ((l.take to).drop f).head? ≠ some 32) :
    vokref4_Split.l8 (I l) f i to (acc.map mkS) = vokref4_Split.l4 (I l) ((i + 1 : Nat) : Int) ((i + 1 : Nat) : Int) ((glue acc ((l.take to).drop f)).map mkS) := by
  have hsz : ((l.take to).drop f).length = to - f := by simp; omega
  rw [← ref_l9 l i _ acc hi hl (by omega) hz hla hacc, vokref4_Split.l8_eq]
  simp only [Int.toNat_natCast, take_drop_I, I_len, szS]
  generalize (l.take to).drop f = t at *
  cases t with
  | nil =>
    simp at hsz
    simp (disch := omega) only [dp, dn, decide_true, decide_false, cond_true, cond_false, Bool.not_true, Bool.not_false, Bool.true_and, Bool.false_and, Bool.and_true, Bool.and_false, Bool.true_or, Bool.false_or, Bool.or_true, Bool.or_false, wr, Option.bind_some, tn_add, tn_add1, tn_sub1, tn_0, tn_1, Int.toNat_natCast, List.length_nil]
    rfl
  | cons c r =>
    have hb : bt (mkS (c :: r)) 0 = (c.toNat : Int) := rfl
    have hc : ((c.toNat : Int) = 32) ↔ c = 32 := u8_eq c 32 (by decide)
    rw [hb]
    by_cases h : c = 32
    · rw [dp (hc.2 h), dp (show (c :: r).head? = some 32 by rw [h]; rfl)]
      simp (disch := omega) only [dp, dn, decide_true, decide_false, cond_true, cond_false, Bool.not_true, Bool.not_false, Bool.true_and, Bool.false_and, Bool.and_true, Bool.and_false, Bool.true_or, Bool.false_or, Bool.or_true, Bool.or_false, wr, Option.bind_some, tn_add, tn_add1, tn_sub1, tn_0, tn_1, Int.toNat_natCast, List.length_cons]
    · rw [dn (fun e => h (hc.1 e)), dn (show ¬ (c :: r).head? = some 32 from fun e => h (by simpa using e))]
      simp (disch := omega) only [dp, dn, decide_true, decide_false, cond_true, cond_false, Bool.not_true, Bool.not_false, Bool.true_and, Bool.false_and, Bool.and_true, Bool.and_false, Bool.true_or, Bool.false_or, Bool.or_true, Bool.or_false, wr, Option.bind_some, tn_add, tn_add1, tn_sub1, tn_0, tn_1, Int.toNat_natCast, List.length_cons]
/-- No end of a line is in between: on. -/
theorem ref_skip (l : List UInt8) (f : Nat) (acc : List (List UInt8)) (hl : l.length ≤ 4096) {i k : Nat} (hik : i ≤ k) (hk : k ≤ l.length) (h : ∀ j, i ≤ j → j < k → chr l j ≠ 10) : vokref4_Split.l4 (I l) f i (acc.map mkS) = vokref4_Split.l4 (I l) f k (acc.map mkS) := by
  refine loop_to (fun i : Nat => vokref4_Split.l4 (I l) f i (acc.map mkS)) hik fun j h1 h2 => ?_
  have hc := h j h1 h2
  show vokref4_Split.l4 (I l) f (j : Nat) (acc.map mkS) = _
  rw [vokref4_Split.l4_eq, I_chr]
  simp (disch := omega) only [dp, dn, decide_true, decide_false, cond_true, cond_false, Bool.not_true, Bool.not_false, Bool.true_and, Bool.false_and, Bool.and_true, Bool.and_false, Bool.true_or, Bool.false_or, Bool.or_true, Bool.or_false, wr, Option.bind_some, tn_add, tn_add1, tn_sub1, tn_0, tn_1, Int.toNat_natCast, I_len]
  rw [vokref4_Split.l5_eq]
  simp (disch := omega) only [dp, dn, decide_true, decide_false, cond_true, cond_false, Bool.not_true, Bool.not_false, Bool.true_and, Bool.false_and, Bool.and_true, Bool.and_false, Bool.true_or, Bool.false_or, Bool.or_true, Bool.or_false, wr, Option.bind_some, tn_add, tn_add1, tn_sub1, tn_0, tn_1, Int.toNat_natCast, Int.natCast_add, Int.natCast_one]
theorem ref_lines (l : List UInt8) (hl : l.length ≤ 4096) (hlast : l.getLast? ≠ some 13) : ∀ (n f : Nat) (acc : List (List UInt8)), l.length - f = n → f ≤ l.length → tot acc + (l.length - f) ≤ 4500 → acc.length + (l.length - f) ≤ 4500 → (acc = [] → ∀ s, (pieces (l.drop f))[0]? = some s → (trimCR s).head? ≠ some 32) →
    vokref4_Split.l4 (I l) f f (acc.map mkS) = some ((lines acc (pieces (l.drop f))).map mkS, 0, 0, ()) := by
  intro n
  induction n using Nat.strongRecOn with
  | ind n ih =>
    intro f acc hn hf hz hla hacc
    have hend : ∀ (y : List (List UInt8)), vokref4_Split.l4 (I l) ((l.length + 1 : Nat) : Int) ((l.length + 1 : Nat) : Int) (y.map mkS) = some (y.map mkS, 0, 0, ()) := by
      intro y
      rw [vokref4_Split.l4_eq]
      simp (disch := omega) only [dp, dn, decide_true, decide_false, cond_true, cond_false, Bool.not_true, Bool.not_false, Bool.true_and, Bool.false_and, Bool.and_true, Bool.and_false, Bool.true_or, Bool.false_or, Bool.or_true, Bool.or_false, wr, Option.bind_some, tn_add, tn_add1, tn_sub1, tn_0, tn_1, Int.toNat_natCast, I_len]
    rcases first_of (c := 10) (l := l.drop f) with h | ⟨a, b, h, ha⟩
    · have hno : ∀ j, f ≤ j → j < l.length → chr l j ≠ 10 := by
        intro j h1 h2 hc
        refine h ?_
        have : l.getD j 0 = 10 := UInt8.toNat_inj.1 hc
        rw [List.getD_eq_getElem?_getD, List.getElem?_eq_getElem h2] at this
        have e : l[j] = 10 := this
        rw [← e]
        have : l[j] = (l.drop f)[j - f]'(by simp; omega) := by simp [show f + (j - f) = j by omega]
        rw [this]
        exact List.getElem_mem _
      rw [ref_skip l f acc hl hf (Nat.le_refl _) hno, vokref4_Split.l4_eq, I_len]
      simp (disch := omega) only [dp, dn, decide_true, decide_false, cond_true, cond_false, Bool.not_true, Bool.not_false, Bool.true_and, Bool.false_and, Bool.and_true, Bool.and_false, Bool.true_or, Bool.false_or, Bool.or_true, Bool.or_false, wr, Option.bind_some, tn_add, tn_add1, tn_sub1, tn_0, tn_1, Int.toNat_natCast]
      rw [vokref4_Split.l5_eq]
      by_cases he : f = l.length
      · simp (disch := omega) only [dp, dn, decide_true, decide_false, cond_true, cond_false, Bool.not_true, Bool.not_false, Bool.true_and, Bool.false_and, Bool.and_true, Bool.and_false, Bool.true_or, Bool.false_or, Bool.or_true, Bool.or_false, wr, Option.bind_some, tn_add, tn_add1, tn_sub1, tn_0, tn_1, Int.toNat_natCast]
        have := hend acc
        rw [Int.natCast_add, Int.natCast_one] at this
        have h0 : l.drop f = [] := by rw [he]; simp
        rw [h0]
        have hfl : (f : Int) = (l.length : Int) := by omega
        have e2 : vokref4_Split.l4 (I l) f ((l.length : Int) + 1) (acc.map mkS) = some (acc.map mkS, 0, 0, ()) := by
          rw [vokref4_Split.l4_eq]
          simp (disch := omega) only [dp, dn, decide_true, decide_false, cond_true, cond_false, Bool.not_true, Bool.not_false, Bool.true_and, Bool.false_and, Bool.and_true, Bool.and_false, Bool.true_or, Bool.false_or, Bool.or_true, Bool.or_false, wr, Option.bind_some, tn_add, tn_add1, tn_sub1, tn_0, tn_1, Int.toNat_natCast, I_len]
        rw [e2]
        simp [pieces, segs, lines]
      · simp (disch := omega) only [dp, dn, decide_true, decide_false, cond_true, cond_false, Bool.not_true, Bool.not_false, Bool.true_and, Bool.false_and, Bool.and_true, Bool.and_false, Bool.true_or, Bool.false_or, Bool.or_true, Bool.or_false, wr, Option.bind_some, tn_add, tn_add1, tn_sub1, tn_0, tn_1, Int.toNat_natCast]
        rw [vokref4_Split.l6_eq, I_len]
        simp (disch := omega) only [dp, dn, decide_true, decide_false, cond_true, cond_false, Bool.not_true, Bool.not_false, Bool.true_and, Bool.false_and, Bool.and_true, Bool.and_false, Bool.true_or, Bool.false_or, Bool.or_true, Bool.or_false, wr, Option.bind_some, tn_add, tn_add1, tn_sub1, tn_0, tn_1, Int.toNat_natCast]
        rw [vokref4_Split.l7_eq]
        simp (disch := omega) only [dp, dn, decide_true, decide_false, cond_true, cond_false, Bool.not_true, Bool.not_false, Bool.true_and, Bool.false_and, Bool.and_true, Bool.and_false, Bool.true_or, Bool.false_or, Bool.or_true, Bool.or_false, wr, Option.bind_some, tn_add, tn_add1, tn_sub1, tn_0, tn_1, Int.toNat_natCast]
        have htk : (l.take l.length).drop f = l.drop f := by rw [List.take_length]
        have hpc : pieces (l.drop f) = [l.drop f] := by
          rw [pieces_none h, if_neg]
          intro e
          have := congrArg List.length e
          simp at this
          omega
        have htr : trimCR (l.drop f) = l.drop f := by
          unfold trimCR
          rw [if_neg]
          rw [List.getLast?_drop]
          split
          · simp
          · exact hlast
        rw [ref_l8 l l.length f l.length acc hf (Nat.le_refl _) (Nat.le_refl _) hl (by omega) (by omega) (by
          intro h0
          rw [htk, ← htr]
          exact hacc h0 _ (by rw [hpc]; rfl)), htk, hend, hpc]
        simp only [lines, List.foldl_cons, List.foldl_nil, htr]
    · have hla2 : f + a.length < l.length := by
        have := congrArg List.length h
        simp at this
        omega
      have hat : ∀ j, j < a.length → l.getD (f + j) 0 = a.getD j 0 := by
        intro j hj
        have : (l.drop f).getD j 0 = (a ++ 10 :: b).getD j 0 := by rw [h]
        rw [getD_app_left _ _ _ _ hj] at this
        rw [← this]
        simp [List.getD_eq_getElem?_getD]
      have hat10 : l.getD (f + a.length) 0 = 10 := by
        have : (l.drop f).getD a.length 0 = (a ++ 10 :: b).getD a.length 0 := by rw [h]
        simp [List.getD_eq_getElem?_getD] at this
        simp [List.getD_eq_getElem?_getD, this]
      have hno : ∀ j, f ≤ j → j < f + a.length → chr l j ≠ 10 := by
        intro j h1 h2 hc
        have e := hat (j - f) (by omega)
        rw [show f + (j - f) = j by omega] at e
        have h10 : a.getD (j - f) 0 = 10 := by rw [← e]; exact UInt8.toNat_inj.1 hc
        refine ha ?_
        rw [List.getD_eq_getElem?_getD, List.getElem?_eq_getElem (by omega)] at h10
        have e2 : a[j - f] = 10 := h10
        rw [← e2]
        exact List.getElem_mem _
      have hb : l.drop (f + a.length + 1) = b := by
        rw [Nat.add_assoc, ← List.drop_drop, h]
        simp [List.drop_append]
      have hta : (l.take (f + a.length)).drop f = a := by
        have : (l.take (f + a.length)).drop f = (l.drop f).take a.length := by rw [List.drop_take]; congr 1; omega
        rw [this, h]
        simp
      have hc10 : chr l (f + a.length) = 10 := by unfold chr; rw [hat10]; rfl
      have hblen : b.length = l.length - (f + a.length + 1) := by rw [← hb]; simp
      have hpc : pieces (l.drop f) = a :: pieces b := by rw [h, pieces_some ha]
      have hrec : ∀ acc2, (tot acc2 ≤ tot acc + a.length) → acc2.length ≤ acc.length + 1 → acc2 ≠ [] → vokref4_Split.l4 (I l) ((f + a.length + 1 : Nat) : Int) ((f + a.length + 1 : Nat) : Int) (acc2.map mkS) = some ((lines acc2 (pieces b)).map mkS, 0, 0, ()) := by
        intro acc2 g1 g2 g3
        have := ih (l.length - (f + a.length + 1)) (by omega) (f + a.length + 1) acc2 rfl (by omega) (by omega) (by omega) (fun e => absurd e g3)
        rw [hb] at this
        exact this
      rw [ref_skip l f acc hl (Nat.le_add_right f a.length) (by omega) hno, vokref4_Split.l4_eq, I_chr]
      simp only [I_len]
      simp (disch := omega) only [dp, dn, decide_true, decide_false, cond_true, cond_false, Bool.not_true, Bool.not_false, Bool.true_and, Bool.false_and, Bool.and_true, Bool.and_false, Bool.true_or, Bool.false_or, Bool.or_true, Bool.or_false, wr, Option.bind_some, tn_add, tn_add1, tn_sub1, tn_0, tn_1, Int.toNat_natCast, hc10]
      rw [vokref4_Split.l5_eq]
      simp (disch := omega) only [dp, dn, decide_true, decide_false, cond_true, cond_false, Bool.not_true, Bool.not_false, Bool.true_and, Bool.false_and, Bool.and_true, Bool.and_false, Bool.true_or, Bool.false_or, Bool.or_true, Bool.or_false, wr, Option.bind_some, tn_add, tn_add1, tn_sub1, tn_0, tn_1, Int.toNat_natCast]
      rw [vokref4_Split.l6_eq]
      simp only [I_len]
      obtain ⟨g1, g2, g3⟩ := glue_tot acc (trimCR a)
      have g4 := trim_len a
      have hfin : ∀ X, X = vokref4_Split.l4 (I l) ((f + a.length + 1 : Nat) : Int) ((f + a.length + 1 : Nat) : Int) ((glue acc (trimCR a)).map mkS) → X = some ((lines acc (pieces (l.drop f))).map mkS, 0, 0, ()) := by
        rintro X rfl
        rw [hrec _ (by omega) g2 g3, hpc]
        rfl
      have hhd : acc = [] → (trimCR a).head? ≠ some 32 := fun e => hacc e a (by rw [hpc]; rfl)
      by_cases hae : a.length = 0
      · simp (disch := omega) only [dp, dn, decide_true, decide_false, cond_true, cond_false, Bool.not_true, Bool.not_false, Bool.true_and, Bool.false_and, Bool.and_true, Bool.and_false, Bool.true_or, Bool.false_or, Bool.or_true, Bool.or_false, wr, Option.bind_some, tn_add, tn_add1, tn_sub1, tn_0, tn_1, Int.toNat_natCast]
        rw [vokref4_Split.l7_eq]
        have ha0 : a = [] := List.eq_nil_of_length_eq_zero hae
        have htr : trimCR a = a := by rw [ha0]; rfl
        refine hfin _ ?_
        have := ref_l8 l (f + a.length) f (f + a.length) acc (by omega) (by omega) (by omega) hl (by omega) (by omega) (by rw [hta, ← htr]; exact hhd)
        rw [hta] at this
        rw [htr]
        exact this
      · have hw : ((f : Int) + (a.length : Int) - 1) = ((f + a.length - 1 : Nat) : Int) := by omega
        have hlastc : chr l (f + a.length - 1) = (a.getD (a.length - 1) 0).toNat := by
          have := hat (a.length - 1) (by omega)
          rw [show f + (a.length - 1) = f + a.length - 1 by omega] at this
          unfold chr
          rw [this]
        have hgl : a.getLast? = some (a.getD (a.length - 1) 0) := by
          rw [List.getLast?_eq_getElem?, List.getD_eq_getElem?_getD, List.getElem?_eq_getElem (by omega)]
          rfl
        simp (disch := omega) only [dp, dn, decide_true, decide_false, cond_true, cond_false, Bool.not_true, Bool.not_false, Bool.true_and, Bool.false_and, Bool.and_true, Bool.and_false, Bool.true_or, Bool.false_or, Bool.or_true, Bool.or_false, wr, Option.bind_some, tn_add, tn_add1, tn_sub1, tn_0, tn_1, Int.toNat_natCast, Int.natCast_add, hw, I_chr]
        rw [vokref4_Split.l7_eq]
        by_cases h13 : chr l (f + a.length - 1) = 13
        · have htr : trimCR a = a.dropLast := by
            unfold trimCR
            rw [if_pos]
            rw [hgl]
            congr 1
            exact UInt8.toNat_inj.1 (by rw [← hlastc]; exact h13)
          simp (disch := omega) only [dp, dn, decide_true, decide_false, cond_true, cond_false, Bool.not_true, Bool.not_false, Bool.true_and, Bool.false_and, Bool.and_true, Bool.and_false, Bool.true_or, Bool.false_or, Bool.or_true, Bool.or_false, wr, Option.bind_some, tn_add, tn_add1, tn_sub1, tn_0, tn_1, Int.toNat_natCast, hw]
          refine hfin _ ?_
          have htd : (l.take (f + a.length - 1)).drop f = a.dropLast := by
            have : (l.take (f + a.length - 1)).drop f = (l.drop f).take (a.length - 1) := by rw [List.drop_take]; congr 1; omega
            rw [this, h, List.take_append_of_le_length (by omega), List.dropLast_eq_take]
          have := ref_l8 l (f + a.length) f (f + a.length - 1) acc (by omega) (by omega) (by omega) hl (by omega) (by omega) (by rw [htd, ← htr]; exact hhd)
          rw [htd] at this
          rw [htr]
          rw [Int.natCast_add] at this
          exact this
        · have htr : trimCR a = a := by
            unfold trimCR
            rw [if_neg]
            rw [hgl]
            intro e
            refine h13 ?_
            rw [hlastc]
            have : a.getD (a.length - 1) 0 = 13 := by simpa using e
            rw [this]
            rfl
          simp (disch := omega) only [dp, dn, decide_true, decide_false, cond_true, cond_false, Bool.not_true, Bool.not_false, Bool.true_and, Bool.false_and, Bool.and_true, Bool.and_false, Bool.true_or, Bool.false_or, Bool.or_true, Bool.or_false, wr, Option.bind_some, tn_add, tn_add1, tn_sub1, tn_0, tn_1, Int.toNat_natCast]
          refine hfin _ ?_
          have := ref_l8 l (f + a.length) f (f + a.length) acc (by omega) (by omega) (by omega) hl (by omega) (by omega) (by rw [hta, ← htr]; exact hhd)
          rw [hta] at this
          rw [htr]
          rw [Int.natCast_add] at this
          exact this
theorem last_good {l : List UInt8} (h : ∀ i, i < l.length → bad l i = false) : l.getLast? ≠ some 13 := by
  intro e
  have hne : l ≠ [] := by rintro rfl; cases e
  have hpos := List.length_pos_iff.2 hne
  have hc : chr l (l.length - 1) = 13 := by
    rw [List.getLast?_eq_getElem?] at e
    unfold chr
    rw [List.getD_eq_getElem?_getD, e]
    rfl
  have := h (l.length - 1) (by omega)
  unfold bad plB endsB at this
  rw [hc] at this
  have h1 : ¬ (l.length - 1 + 1 < l.length) := by omega
  rw [dn h1] at this
  simp at this
theorem ref_split (l : List UInt8) : vokref4_Split.f (I l) = fold_Split.f (I l) := by
  rcases fsplit_cases l with h | ⟨h, k, h1, h2, h3⟩ | ⟨h, h1⟩
  · rw [fsplit_long h, vokref4_Split.f_eq, I_len]
    simp (disch := omega) only [dp, dn, decide_true, decide_false, cond_true, cond_false, Bool.not_true, Bool.not_false, Bool.true_and, Bool.false_and, Bool.and_true, Bool.and_false, Bool.true_or, Bool.false_or, Bool.or_true, Bool.or_false, wr, Option.bind_some, tn_add, tn_add1, tn_sub1, tn_0, tn_1, Int.toNat_natCast]
  · rw [fsplit_bad h h1 h2 h3, vokref4_Split.f_eq, I_len]
    simp (disch := omega) only [dp, dn, decide_true, decide_false, cond_true, cond_false, Bool.not_true, Bool.not_false, Bool.true_and, Bool.false_and, Bool.and_true, Bool.and_false, Bool.true_or, Bool.false_or, Bool.or_true, Bool.or_false, wr, Option.bind_some, tn_add, tn_add1, tn_sub1, tn_0, tn_1, Int.toNat_natCast]
    have := loop_to (fun i : Nat => vokref4_Split.l1 (I l) i) (k := k) (i := 0) (Nat.zero_le _) fun j _ hj => by
      rw [ref_step l j (by omega) (by omega), if_neg (by rw [h3 j hj]; decide)]
    refine this.trans ?_
    show vokref4_Split.l1 (I l) ((k : Nat) : Int) = _
    rw [ref_step l k h1 (by omega), if_pos h2]
  · rw [fsplit_good h h1, vokref4_Split.f_eq, I_len]
    simp (disch := omega) only [dp, dn, decide_true, decide_false, cond_true, cond_false, Bool.not_true, Bool.not_false, Bool.true_and, Bool.false_and, Bool.and_true, Bool.and_false, Bool.true_or, Bool.false_or, Bool.or_true, Bool.or_false, wr, Option.bind_some, tn_add, tn_add1, tn_sub1, tn_0, tn_1, Int.toNat_natCast]
    have := loop_to (fun i : Nat => vokref4_Split.l1 (I l) i) (k := l.length) (i := 0) (Nat.zero_le _) fun j _ hj => by
      rw [ref_step l j (by omega) (by omega), if_neg (by rw [h1 j hj]; decide)]
    refine this.trans ?_
    show vokref4_Split.l1 (I l) ((l.length : Nat) : Int) = _
    rw [vokref4_Split.l1_eq, I_len]
    simp (disch := omega) only [dp, dn, decide_true, decide_false, cond_true, cond_false, Bool.not_true, Bool.not_false, Bool.true_and, Bool.false_and, Bool.and_true, Bool.and_false, Bool.true_or, Bool.false_or, Bool.or_true, Bool.or_false, wr, Option.bind_some, tn_add, tn_add1, tn_sub1, tn_0, tn_1, Int.toNat_natCast]
    have h4 := ref_lines l h (last_good h1) l.length 0 [] rfl (Nat.zero_le _) (by simp [tot]; omega) (by simp; omega) (fun _ => by rw [List.drop_zero]; exact head_pieces h1)
    rw [List.drop_zero] at h4
    exact h4
end Go.GV.YtlfiapleboklcaaDoor
