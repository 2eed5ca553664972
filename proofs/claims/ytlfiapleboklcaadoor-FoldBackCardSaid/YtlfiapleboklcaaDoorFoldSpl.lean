/-
What fold.Split comes to: lines. (This session's own text.)
-/
import Derived.Test.YtlfiapleboklcaaDoorFoldSpec
set_option linter.unusedVariables false
set_option linter.unusedSimpArgs false
namespace Go.GV.YtlfiapleboklcaaDoor
open Go.Proofs
/-! ### Lines -/
def trimCR (s : List UInt8) : List UInt8 := if s.getLast? = some 13 then s.dropLast else s
def glue (acc : List (List UInt8)) (t : List UInt8) : List (List UInt8) := if t.head? = some 32 then acc.dropLast ++ [acc.getLast?.getD [] ++ t.tail] else acc ++ [t]
def lines (acc raw : List (List UInt8)) : List (List UInt8) := raw.foldl (fun acc s => glue acc (trimCR s)) acc
/-- The pieces of a text, the empty last one left out. -/
def pieces (l : List UInt8) : List (List UInt8) := if (segs 10 l).getLast? = some [] then (segs 10 l).dropLast else segs 10 l
def tot (l : List (List UInt8)) : Nat := (l.map List.length).sum
theorem tot_app (a b : List (List UInt8)) : tot (a ++ b) = tot a + tot b := by simp [tot]
theorem tot_cons (a : List UInt8) (b : List (List UInt8)) : tot (a :: b) = a.length + tot b := by simp [tot]
theorem trim_len (s : List UInt8) : (trimCR s).length ≤ s.length := by
  unfold trimCR
  split
  · simp
  · exact Nat.le_refl _
theorem pieces_none {l : List UInt8} (h : 10 ∉ l) : pieces l = if l = [] then [] else [l] := by
  unfold pieces
  rw [segs_none h]
  by_cases hl : l = [] <;> simp [hl]
theorem pieces_some {a b : List UInt8} (h : 10 ∉ a) : pieces (a ++ 10 :: b) = a :: pieces b := by
  unfold pieces
  rw [segs_some h]
  have hne := segs_ne 10 b
  cases hs : segs 10 b with
  | nil => exact absurd hs hne
  | cons x xs =>
    rw [List.getLast?_cons_cons]
    split
    · rw [List.dropLast_cons_of_ne_nil (by simp)]
    · rfl
theorem segs_tot (c : UInt8) : ∀ l, tot (segs c l) + (segs c l).length = l.length + 1
  | [] => by simp [segs, tot]
  | b :: l => by
    have ih := segs_tot c l
    have hne := segs_ne c l
    simp only [segs]
    split
    · rw [tot_cons]; simp; omega
    · cases hs : segs c l with
      | nil => exact absurd hs hne
      | cons x xs =>
        rw [hs] at ih
        rw [tot_cons] at ih ⊢
        simp at ih ⊢
        omega
theorem pieces_tot (l : List UInt8) : tot (pieces l) + (pieces l).length ≤ l.length + 1 := by
  have h := segs_tot 10 l
  unfold pieces
  split
  · rename_i hl
    rcases List.eq_nil_or_concat (segs 10 l) with he | ⟨x, y, he⟩
    · rw [he] at hl; cases hl
    · rw [List.concat_eq_append] at he
      rw [he] at h ⊢
      rw [List.dropLast_concat]
      rw [tot_app] at h
      simp at h
      omega
  · omega
theorem getD_last (acc : List (List UInt8)) (b : List UInt8) : (((acc ++ [b]).map mkS).getD acc.length ByteArray.empty) = mkS b := by
  simp [List.getD_eq_getElem?_getD]
/-- One piece more. -/
theorem split_step (raw : List (List UInt8)) (i : Nat) (hi : i < raw.length) (acc : List (List UInt8)) (hz : tot acc + (raw.getD i []).length < 100000) (hl : acc.length < 100000) (hr : raw.length < 100000) (hacc : acc = [] → (trimCR (raw.getD i [])).head? ≠ some 32) :
    fold_Split.l2 (raw.map mkS) (raw.length : Int) i (acc.map mkS) = fold_Split.l2 (raw.map mkS) (raw.length : Int) ((i + 1 : Nat) : Int) ((glue acc (trimCR (raw.getD i []))).map mkS) := by
  obtain ⟨X, hX⟩ : ∃ X, X = fold_Split.l2 (raw.map mkS) (raw.length : Int) ((i + 1 : Nat) : Int) ((glue acc (trimCR (raw.getD i []))).map mkS) := ⟨_, rfl⟩
  rw [← hX, fold_Split.l2_eq]
  have hz2 := trim_len (raw.getD i [])
  simp (disch := omega) only [dp, dn, decide_true, decide_false, cond_true, cond_false, Bool.not_true, Bool.not_false, Bool.true_and, Bool.false_and, Bool.and_true, Bool.and_false, Bool.true_or, Bool.false_or, Bool.or_true, Bool.or_false, wr, Option.bind_some, tn_add, tn_add1, tn_sub1, tn_0, tn_1, Int.toNat_natCast, List.length_map]
  rw [map_getD mkS raw i [] _ hi, show (⟨#[13]⟩ : ByteArray) = mkS [13] from rfl, show (⟨#[32]⟩ : ByteArray) = mkS [32] from rfl, trimSuffix_one _ _ (by omega)]
  simp (disch := omega) only [dp, dn, decide_true, decide_false, cond_true, cond_false, Bool.not_true, Bool.not_false, Bool.true_and, Bool.false_and, Bool.and_true, Bool.and_false, Bool.true_or, Bool.false_or, Bool.or_true, Bool.or_false, wr, Option.bind_some, tn_add, tn_add1, tn_sub1, tn_0, tn_1, Int.toNat_natCast]
  rw [show (if (raw.getD i []).getLast? = some 13 then (raw.getD i []).dropLast else raw.getD i []) = trimCR (raw.getD i []) from rfl, hasPrefix_one]
  generalize trimCR (raw.getD i []) = t at *
  by_cases ht : t.head? = some 32
  · rw [dp ht]
    rcases List.eq_nil_or_concat acc with rfl | ⟨a, b, he⟩
    · exact absurd ht (hacc rfl)
    · rw [List.concat_eq_append] at he
      subst he
      have hlen : (a ++ [b]).length = a.length + 1 := by simp
      obtain ⟨t', rfl⟩ : ∃ t', t = 32 :: t' := by cases t with
        | nil => cases ht
        | cons x y => simp at ht; exact ⟨y, by rw [ht]⟩
      rw [tot_app, tot_cons] at hz
      have hlt : (32 :: t').length = t'.length + 1 := rfl
      have e1 : (mkS (32 :: t')).extract 1 (mkS (32 :: t')).size = mkS t' := B_inj (by rw [B_exte]; rfl)
      have hw : IntKind.i64.wrap (((a.length + 1 : Nat) : Int) - 1) = (a.length : Int) := by rw [wr (by omega) (by omega)]; omega
      rw [hlen, Nat.add_sub_cancel, e1, getD_last, mk_app]
      simp (disch := omega) only [dp, dn, decide_true, decide_false, cond_true, cond_false, Bool.not_true, Bool.not_false, Bool.true_and, Bool.false_and, Bool.and_true, Bool.and_false, Bool.true_or, Bool.false_or, Bool.or_true, Bool.or_false, wr, Option.bind_some, tn_add, tn_add1, tn_sub1, tn_0, tn_1, Int.toNat_natCast, szS, hlt]
      rw [hX]
      unfold glue
      rw [if_pos ht]
      simp [List.set_append_right]
  · rw [dn ht]
    have hlim : limit = 17179869184 := rfl
    simp (disch := omega) only [dp, dn, decide_true, decide_false, cond_true, cond_false, Bool.not_true, Bool.not_false, Bool.true_and, Bool.false_and, Bool.and_true, Bool.and_false, Bool.true_or, Bool.false_or, Bool.or_true, Bool.or_false, wr, Option.bind_some, tn_add, tn_add1, tn_sub1, tn_0, tn_1, Int.toNat_natCast, List.length_cons, List.length_nil]
    rw [hX]
    unfold glue
    rw [if_neg ht]
    simp
theorem glue_tot (acc : List (List UInt8)) (t : List UInt8) : tot (glue acc t) ≤ tot acc + t.length ∧ (glue acc t).length ≤ acc.length + 1 ∧ glue acc t ≠ [] := by
  unfold glue
  split
  · rcases List.eq_nil_or_concat acc with rfl | ⟨a, b, he⟩
    · simp [tot]
    · rw [List.concat_eq_append] at he
      subst he
      rw [List.dropLast_concat, tot_app, tot_app]
      simp [tot]
      omega
  · rw [tot_app]
    simp [tot]
theorem split_l2 (raw : List (List UInt8)) (hr : raw.length < 50000) : ∀ (k i : Nat) (acc : List (List UInt8)), raw.length - i = k → i ≤ raw.length → tot acc + tot (raw.drop i) < 50000 → acc.length + k < 60000 → (acc = [] → ∀ s, raw[i]? = some s → (trimCR s).head? ≠ some 32) →
    fold_Split.l2 (raw.map mkS) (raw.length : Int) i (acc.map mkS) = some ((lines acc (raw.drop i)).map mkS, 0, 0, ()) := by
  intro k
  induction k with
  | zero =>
    intro i acc hk hi _ _ _
    have e : i = raw.length := by omega
    subst e
    rw [fold_Split.l2_eq, List.drop_length]
    simp (disch := omega) only [dp, dn, decide_true, decide_false, cond_true, cond_false, Bool.not_true, Bool.not_false, Bool.true_and, Bool.false_and, Bool.and_true, Bool.and_false, Bool.true_or, Bool.false_or, Bool.or_true, Bool.or_false, wr, Option.bind_some, tn_add, tn_add1, tn_sub1, tn_0, tn_1, Int.toNat_natCast]
    rfl
  | succ k ih =>
    intro i acc hk hi ht hl hacc
    have hlt : i < raw.length := by omega
    have hg : raw[i]? = some (raw.getD i []) := by simp [List.getD_eq_getElem?_getD, hlt]
    have hd := drop_cons raw i [] hlt
    rw [hd, tot_cons] at ht
    rw [split_step raw i hlt acc (by omega) (by omega) (by omega) (fun h => hacc h _ hg)]
    obtain ⟨g1, g2, g3⟩ := glue_tot acc (trimCR (raw.getD i []))
    have g4 := trim_len (raw.getD i [])
    rw [ih (i + 1) (glue acc (trimCR (raw.getD i []))) (by omega) (by omega) (by omega) (by omega) (fun h => absurd h g3), hd]
    rfl
/-! ### The whole -/
theorem fsplit_long {l : List UInt8} (h : 4096 < l.length) : fold_Split.f (I l) = some ([], 0, 3, ()) := by
  rw [fold_Split.f_eq, I_len]
  simp (disch := omega) only [dp, dn, decide_true, decide_false, cond_true, cond_false, Bool.not_true, Bool.not_false, Bool.true_and, Bool.false_and, Bool.and_true, Bool.and_false, Bool.true_or, Bool.false_or, Bool.or_true, Bool.or_false, wr, Option.bind_some, tn_add, tn_add1, tn_sub1, tn_0, tn_1, Int.toNat_natCast]
theorem fsplit_bad {l : List UInt8} (hl : l.length ≤ 4096) {k : Nat} (hk : k < l.length) (hb : bad l k = true) (h : ∀ i, i < k → bad l i = false) : fold_Split.f (I l) = some ([], (k : Int), 4, ()) := by
  rw [fold_Split.f_eq, I_len, wrong_bad (by omega) hk hb h]
  simp (disch := omega) only [dp, dn, decide_true, decide_false, cond_true, cond_false, Bool.not_true, Bool.not_false, Bool.true_and, Bool.false_and, Bool.and_true, Bool.and_false, Bool.true_or, Bool.false_or, Bool.or_true, Bool.or_false, wr, Option.bind_some, tn_add, tn_add1, tn_sub1, tn_0, tn_1, Int.toNat_natCast]
theorem head_pieces {l : List UInt8} (h : ∀ i, i < l.length → bad l i = false) : ∀ s, (pieces l)[0]? = some s → (trimCR s).head? ≠ some 32 := by
  have key : ∀ s r, l = s ++ r → (trimCR s).head? ≠ some 32 := by
    intro s r e hh
    have h1 : s.head? = some 32 := by
      unfold trimCR at hh
      split at hh
      · cases s with
        | nil => cases hh
        | cons x y => cases y with
          | nil => cases hh
          | cons z w => simpa using hh
      · exact hh
    cases s with
    | nil => cases h1
    | cons x y =>
      simp at h1
      subst h1
      have := h 0 (by rw [e]; simp)
      rw [e] at this
      simp [bad, chr] at this
  intro s hs
  rcases first_of (c := 10) (l := l) with h1 | ⟨a, b, h2, h3⟩
  · rw [pieces_none h1] at hs
    by_cases hl : l = []
    · simp [hl] at hs
    · simp [hl] at hs
      exact key s [] (by simp [hs])
  · rw [h2, pieces_some h3] at hs
    simp at hs
    exact key s (10 :: b) (by rw [h2, hs])
theorem fsplit_good {l : List UInt8} (hl : l.length ≤ 4096) (h : ∀ i, i < l.length → bad l i = false) : fold_Split.f (I l) = some ((lines [] (pieces l)).map mkS, 0, 0, ()) := by
  have hne := segs_ne 10 l
  have htot := segs_tot 10 l
  have hpt := pieces_tot l
  have hfin : fold_Split.l1 ((pieces l).map mkS) = some ((lines [] (pieces l)).map mkS, 0, 0, ()) := by
    rw [fold_Split.l1_eq, List.length_map]
    have := split_l2 (pieces l) (by omega) (pieces l).length 0 [] rfl (Nat.zero_le _) (by rw [List.drop_zero]; simp only [tot, List.map_nil, List.sum_nil]; unfold tot at hpt; omega) (by simp; omega) (fun _ => head_pieces h)
    rw [List.drop_zero] at this
    exact this
  rw [fold_Split.f_eq, I_len, wrong_good (by omega) h, strOf_I, show (⟨#[10]⟩ : ByteArray) = mkS [10] from rfl, show (⟨#[]⟩ : ByteArray) = mkS [] from rfl]
  simp (disch := omega) only [dp, dn, decide_true, decide_false, cond_true, cond_false, Bool.not_true, Bool.not_false, Bool.true_and, Bool.false_and, Bool.and_true, Bool.and_false, Bool.true_or, Bool.false_or, Bool.or_true, Bool.or_false, wr, Option.bind_some, tn_add, tn_add1, tn_sub1, tn_0, tn_1, Int.toNat_natCast]
  rw [split_one l (by omega)]
  rcases List.eq_nil_or_concat (segs 10 l) with he | ⟨x, y, he⟩
  · exact absurd he hne
  · rw [List.concat_eq_append] at he
    have hp : pieces l = if y = [] then x else x ++ [y] := by
      unfold pieces
      rw [he]
      simp
    have hlen : ((x ++ [y]).map mkS).length = x.length + 1 := by simp
    rw [he] at htot ⊢
    rw [tot_app] at htot
    simp at htot
    have hw : IntKind.i64.wrap (((x.length + 1 : Nat) : Int) - 1) = (x.length : Int) := by rw [wr (by omega) (by omega)]; omega
    simp (disch := omega) only [dp, dn, decide_true, decide_false, cond_true, cond_false, Bool.not_true, Bool.not_false, Bool.true_and, Bool.false_and, Bool.and_true, Bool.and_false, Bool.true_or, Bool.false_or, Bool.or_true, Bool.or_false, wr, Option.bind_some, tn_add, tn_add1, tn_sub1, tn_0, tn_1, Int.toNat_natCast, hlen, hw]
    rw [getD_last, beq_S]
    by_cases hy : y = []
    · subst hy
      rw [if_pos rfl] at hp
      rw [hp] at hfin ⊢
      simp (disch := omega) only [dp, dn, decide_true, decide_false, cond_true, cond_false, Bool.not_true, Bool.not_false, Bool.true_and, Bool.false_and, Bool.and_true, Bool.and_false, Bool.true_or, Bool.false_or, Bool.or_true, Bool.or_false, wr, Option.bind_some, tn_add, tn_add1, tn_sub1, tn_0, tn_1, Int.toNat_natCast]
      have e3 : (((x ++ [([] : List UInt8)]).map mkS).take x.length : List ByteArray) = x.map mkS := by simp
      rw [e3]
      exact hfin
    · rw [if_neg hy] at hp
      rw [hp] at hfin ⊢
      rw [dn (fun e => hy (by have := congrArg B e; simpa [B_mk] using this))]
      exact hfin
/-- One of the three. -/
theorem fsplit_cases (l : List UInt8) : 4096 < l.length ∨ (l.length ≤ 4096 ∧ ∃ k, k < l.length ∧ bad l k = true ∧ ∀ i, i < k → bad l i = false) ∨ (l.length ≤ 4096 ∧ ∀ i, i < l.length → bad l i = false) := by
  by_cases h : 4096 < l.length
  · exact .inl h
  · rcases first_bad (bad l) l.length with h1 | ⟨k, h1, h2, h3⟩
    · exact .inr (.inr ⟨by omega, h1⟩)
    · exact .inr (.inl ⟨by omega, k, h1, h2, h3⟩)
/-! ### Texts -/
theorem texts_l1 (a b : List ByteArray) (hab : a.length = b.length) (hl : a.length < 4611686018427387904) : ∀ (k i : Nat), a.length - i = k → i ≤ a.length → a.take i = b.take i → vokref_Texts.l1 a b (i : Nat) = some (decide (a = b), ()) := by
  intro k
  induction k with
  | zero =>
    intro i hk hi h
    have e : i = a.length := by omega
    subst e
    rw [List.take_length] at h
    rw [hab, List.take_length] at h
    rw [vokref_Texts.l1_eq]
    simp (disch := omega) only [dp, dn, decide_true, decide_false, cond_true, cond_false, Bool.not_true, Bool.not_false, Bool.true_and, Bool.false_and, Bool.and_true, Bool.and_false, Bool.true_or, Bool.false_or, Bool.or_true, Bool.or_false, wr, Option.bind_some, tn_add, tn_add1, tn_sub1, tn_0, tn_1, Int.toNat_natCast, h]
  | succ k ih =>
    intro i hk hi h
    have hlt : i < a.length := by omega
    rw [vokref_Texts.l1_eq, beq_S]
    simp (disch := omega) only [dp, dn, decide_true, decide_false, cond_true, cond_false, Bool.not_true, Bool.not_false, Bool.true_and, Bool.false_and, Bool.and_true, Bool.and_false, Bool.true_or, Bool.false_or, Bool.or_true, Bool.or_false, wr, Option.bind_some, tn_add, tn_add1, tn_sub1, tn_0, tn_1, Int.toNat_natCast]
    by_cases hc : a.getD i ByteArray.empty = b.getD i ByteArray.empty
    · rw [dp hc]
      refine ih (i + 1) (by omega) (by omega) ?_
      rw [List.take_add_one, List.take_add_one, h]
      congr 1
      have h1 : a[i]? = some (a.getD i ByteArray.empty) := by simp [List.getD_eq_getElem?_getD, hlt]
      have h2 : b[i]? = some (b.getD i ByteArray.empty) := by simp [List.getD_eq_getElem?_getD, show i < b.length by omega]
      rw [h1, h2, hc]
    · rw [dn hc, dn (fun e => hc (by rw [e]))]
      rfl
theorem texts_eq (a b : List ByteArray) (hl : a.length < 4611686018427387904) (hb : b.length < 4611686018427387904) : vokref_Texts.f a b = some (decide (a = b), ()) := by
  rw [vokref_Texts.f_eq]
  by_cases h : a.length = b.length
  · simp (disch := omega) only [dp, dn, decide_true, decide_false, cond_true, cond_false, Bool.not_true, Bool.not_false, Bool.true_and, Bool.false_and, Bool.and_true, Bool.and_false, Bool.true_or, Bool.false_or, Bool.or_true, Bool.or_false, wr, Option.bind_some, tn_add, tn_add1, tn_sub1, tn_0, tn_1, Int.toNat_natCast]
    exact texts_l1 a b h hl a.length 0 rfl (Nat.zero_le _) (by simp)
  · have : decide (a = b) = false := dn fun e => h (by rw [e])
    simp (disch := omega) only [dp, dn, decide_true, decide_false, cond_true, cond_false, Bool.not_true, Bool.not_false, Bool.true_and, Bool.false_and, Bool.and_true, Bool.and_false, Bool.true_or, Bool.false_or, Bool.or_true, Bool.or_false, wr, Option.bind_some, tn_add, tn_add1, tn_sub1, tn_0, tn_1, Int.toNat_natCast, this]
end Go.GV.YtlfiapleboklcaaDoor
