/-
FoldBack: there and back. (This session's own text.)
-/
import Derived.Test.YtlfiapleboklcaaDoorFoldJoin
set_option linter.unusedVariables false
set_option linter.unusedSimpArgs false
namespace Go.GV.YtlfiapleboklcaaDoor
open Go.Proofs
/-! ### What was joined has no byte that may not be -/
def goodB : List UInt8 → Bool
  | [] => true
  | b :: l => (plB b.toNat || (decide (b = 10) || (decide (b = 13) && decide (l.head? = some 10)))) && goodB l
theorem good_app : ∀ {a l : List UInt8}, a.all (fun c => plB c.toNat) = true → goodB l = true → goodB (a ++ l) = true
  | [], _, _, h => h
  | b :: a, l, h1, h2 => by
    rw [List.all_cons, Bool.and_eq_true] at h1
    rw [List.cons_append, goodB, h1.1, good_app h1.2 h2]
    rfl
theorem good_wrapd : ∀ (n w : Nat) (s rest : List UInt8), s.all (fun c => plB c.toNat) = true → goodB rest = true → goodB (wrapd n w s ++ rest) = true := by
  have hend : ∀ (s rest : List UInt8), s.all (fun c => plB c.toNat) = true → goodB rest = true → goodB ((s ++ [13, 10]) ++ rest) = true := by
    intro s rest h1 h2
    rw [List.append_assoc]
    exact good_app h1 (by simp [goodB, h2])
  intro n
  induction n with
  | zero => intro w s rest h1 h2; exact hend s rest h1 h2
  | succ n ih =>
    intro w s rest h1 h2
    unfold wrapd
    split
    · have ht : (s.take w).all (fun c => plB c.toNat) = true := by
        rw [List.all_eq_true] at h1 ⊢
        exact fun x hx => h1 x (List.mem_of_mem_take hx)
      have hd : (s.drop w).all (fun c => plB c.toNat) = true := by
        rw [List.all_eq_true] at h1 ⊢
        exact fun x hx => h1 x (List.mem_of_mem_drop hx)
      have := ih 74 (s.drop w) rest hd h2
      rw [List.append_assoc]
      refine good_app ht ?_
      have h32 : plB 32 = true := rfl
      simp [goodB, this, h32]
    · exact hend s rest h1 h2
theorem good_bad : ∀ (l : List UInt8), goodB l = true → l.head? ≠ some 32 → ∀ i, i < l.length → bad l i = false := by
  have key : ∀ (l : List UInt8), goodB l = true → ∀ i, i < l.length → (!plB (chr l i) && !endsB l i) = false := by
    intro l
    induction l with
    | nil => intro _ i hi; cases hi
    | cons b l ih =>
      intro h i hi
      rw [goodB, Bool.and_eq_true] at h
      cases i with
      | succ i =>
        have := ih h.2 i (by simpa using hi)
        have e1 : chr (b :: l) (i + 1) = chr l i := rfl
        have e2 : endsB (b :: l) (i + 1) = endsB l i := by
          unfold endsB
          have e3 : chr (b :: l) (i + 1 + 1) = chr l (i + 1) := rfl
          rw [e1, e3]
          simp
        rw [e1, e2]
        exact this
      | zero =>
        have h1 := h.1
        have e1 : chr (b :: l) 0 = b.toNat := rfl
        unfold endsB
        rw [e1]
        cases hp : plB b.toNat with
        | true => rfl
        | false =>
          rw [hp] at h1
          simp only [Bool.false_or, Bool.or_eq_true, decide_eq_true_eq, Bool.and_eq_true] at h1
          rcases h1 with rfl | ⟨rfl, h1⟩
          · rfl
          · cases l with
            | nil => cases h1
            | cons x y =>
              simp at h1
              subst h1
              simp [chr]
  intro l h1 h2 i hi
  unfold bad
  rw [key l h1 i hi, Bool.false_or]
  by_cases h0 : i = 0
  · subst h0
    have hne : l ≠ [] := fun e => by rw [e] at hi; cases hi
    have := head_chr l hne
    rw [dn h2] at this
    have h3 : ¬ ((chr l 0 : Int) = 32) := of_decide_eq_false this.symm
    rw [dn (by omega : ¬ chr l 0 = 32)]
    simp
  · rw [dn h0]
    rfl
theorem may_and {s : List UInt8} (h : mayB s = true) : s.all (fun c => plB c.toNat) = true ∧ s ≠ [] ∧ s.head? ≠ some 32 := by
  unfold mayB at h
  simp only [Bool.and_eq_true] at h
  obtain ⟨h1, h2, h3⟩ := h
  exact ⟨h1, by simpa using h2, by simpa using h3⟩
theorem good_joined : ∀ (L : List (List UInt8)), L.all mayB = true → goodB (joined L) = true
  | [], _ => rfl
  | s :: L, h => by
    rw [List.all_cons, Bool.and_eq_true] at h
    exact good_wrapd s.length 75 s (joined L) (may_and h.1).1 (good_joined L h.2)
theorem head_wrapd (n w : Nat) (s rest : List UInt8) (hw : 1 ≤ w) (hs : s ≠ []) : (wrapd n w s ++ rest).head? = s.head? := by
  cases s with
  | nil => exact absurd rfl hs
  | cons x y =>
    cases n with
    | zero => rfl
    | succ n =>
      unfold wrapd
      split
      · cases w with
        | zero => omega
        | succ w => rfl
      · rfl
theorem head_joined (L : List (List UInt8)) (h : L.all mayB = true) : (joined L).head? ≠ some 32 := by
  cases L with
  | nil => intro e; cases e
  | cons s L =>
    rw [List.all_cons, Bool.and_eq_true] at h
    obtain ⟨_, h2, h3⟩ := may_and h.1
    have : joined (s :: L) = wrapd s.length 75 s ++ joined L := rfl
    rw [this, head_wrapd _ _ _ _ (by omega) h2]
    exact h3
/-! ### And its lines are those that were joined -/
theorem pl_no10 {s : List UInt8} (h : s.all (fun c => plB c.toNat) = true) : (10 : UInt8) ∉ s := by
  intro hm
  rw [List.all_eq_true] at h
  have := h 10 hm
  cases this
theorem trim_13 (s : List UInt8) : trimCR (s ++ [13]) = s := by simp [trimCR]
theorem lines_cons (acc : List (List UInt8)) (s : List UInt8) (r : List (List UInt8)) : lines acc (s :: r) = lines (glue acc (trimCR s)) r := rfl
theorem pieces_line (s rest : List UInt8) (h : s.all (fun c => plB c.toNat) = true) : pieces ((s ++ 13 :: 10 :: rest)) = (s ++ [13]) :: pieces rest := by
  have : s ++ 13 :: 10 :: rest = (s ++ [13]) ++ 10 :: rest := by simp
  rw [this, pieces_some]
  intro hm
  rw [List.mem_append] at hm
  rcases hm with hm | hm
  · exact pl_no10 h hm
  · simp at hm
theorem lines_more : ∀ (n : Nat) (s rest p : List UInt8) (acc : List (List UInt8)), s.length ≤ n → s.all (fun c => plB c.toNat) = true →
    lines (acc ++ [p]) (pieces (32 :: (wrapd n 74 s ++ rest))) = lines (acc ++ [p ++ s]) (pieces rest) := by
  have h32 : plB (32 : UInt8).toNat = true := rfl
  have one : ∀ (s rest p : List UInt8) (acc : List (List UInt8)), s.all (fun c => plB c.toNat) = true → lines (acc ++ [p]) (pieces (32 :: (s ++ 13 :: 10 :: rest))) = lines (acc ++ [p ++ s]) (pieces rest) := by
    intro s rest p acc h
    have := pieces_line (32 :: s) rest (by rw [List.all_cons, h32, h]; rfl)
    rw [List.cons_append] at this
    rw [this, lines_cons, trim_13]
    congr 1
    simp [glue]
  intro n
  induction n with
  | zero =>
    intro s rest p acc _ h
    have := one s rest p acc h
    simpa [wrapd] using this
  | succ n ih =>
    intro s rest p acc hn h
    have ht : (s.take 74).all (fun c => plB c.toNat) = true := by
      rw [List.all_eq_true] at h ⊢
      exact fun x hx => h x (List.mem_of_mem_take hx)
    have hd : (s.drop 74).all (fun c => plB c.toNat) = true := by
      rw [List.all_eq_true] at h ⊢
      exact fun x hx => h x (List.mem_of_mem_drop hx)
    unfold wrapd
    split
    · rename_i hlt
      have h1 := one (s.take 74) (32 :: (wrapd n 74 (s.drop 74) ++ rest)) p acc ht
      have e : s.take 74 ++ 13 :: 10 :: 32 :: wrapd n 74 (s.drop 74) ++ rest = s.take 74 ++ 13 :: 10 :: 32 :: (wrapd n 74 (s.drop 74) ++ rest) := by simp
      rw [e, h1, ih (s.drop 74) rest (p ++ s.take 74) acc (by rw [List.length_drop]; omega) hd, List.append_assoc, List.take_append_drop]
    · have := one s rest p acc h
      simpa using this
theorem lines_wrap (s rest : List UInt8) (acc : List (List UInt8)) (h : mayB s = true) : lines acc (pieces (wrapd s.length 75 s ++ rest)) = lines (acc ++ [s]) (pieces rest) := by
  obtain ⟨h1, h2, h3⟩ := may_and h
  have one : ∀ (t rest : List UInt8), t.all (fun c => plB c.toNat) = true → t.head? ≠ some 32 → lines acc (pieces (t ++ 13 :: 10 :: rest)) = lines (acc ++ [t]) (pieces rest) := by
    intro t rest ht hh
    rw [pieces_line t rest ht, lines_cons, trim_13]
    congr 1
    unfold glue
    rw [if_neg hh]
  obtain ⟨n, hn⟩ : ∃ n, s.length = n + 1 := by cases s with
    | nil => exact absurd rfl h2
    | cons x y => exact ⟨y.length, rfl⟩
  rw [hn]
  unfold wrapd
  split
  · rename_i hlt
    have ht : (s.take 75).all (fun c => plB c.toNat) = true := by
      rw [List.all_eq_true] at h1 ⊢
      exact fun x hx => h1 x (List.mem_of_mem_take hx)
    have hd : (s.drop 75).all (fun c => plB c.toNat) = true := by
      rw [List.all_eq_true] at h1 ⊢
      exact fun x hx => h1 x (List.mem_of_mem_drop hx)
    have hh : (s.take 75).head? ≠ some 32 := by
      cases s with
      | nil => exact absurd rfl h2
      | cons x y => simpa using h3
    have e : s.take 75 ++ 13 :: 10 :: 32 :: wrapd n 74 (s.drop 75) ++ rest = s.take 75 ++ 13 :: 10 :: (32 :: (wrapd n 74 (s.drop 75) ++ rest)) := by simp
    rw [e, one _ _ ht hh, lines_more n (s.drop 75) rest (s.take 75) acc (by rw [List.length_drop]; omega) hd, List.take_append_drop]
  · have := one s rest h1 h3
    simpa using this
theorem lines_joined : ∀ (L acc : List (List UInt8)), L.all mayB = true → lines acc (pieces (joined L)) = acc ++ L
  | [], acc, _ => by
    have : pieces (joined []) = [] := rfl
    rw [this]
    simp [lines]
  | s :: L, acc, h => by
    rw [List.all_cons, Bool.and_eq_true] at h
    have : joined (s :: L) = wrapd s.length 75 s ++ joined L := rfl
    rw [this, lines_wrap s (joined L) acc h.1, lines_joined L (acc ++ [s]) h.2]
    simp
/-! ### No line is longer than 76 bytes -/
def run : Nat → List UInt8 → Bool
  | _, [] => true
  | c, b :: l => if b = 10 then run 0 l else decide (c + 1 ≤ 76) && run (c + 1) l
theorem run_app : ∀ {a l : List UInt8} {c : Nat}, (10 : UInt8) ∉ a → c + a.length ≤ 76 → run (c + a.length) l = true → run c (a ++ l) = true
  | [], _, _, _, _, h => h
  | b :: a, l, c, h1, h2, h3 => by
    simp only [List.mem_cons, not_or] at h1
    rw [List.length_cons] at h2 h3
    rw [List.cons_append, run, if_neg (fun e => h1.1 e.symm), dp (by omega), Bool.true_and]
    refine run_app h1.2 (by omega) ?_
    rw [show c + 1 + a.length = c + (a.length + 1) by omega]
    exact h3
theorem run_wrapd : ∀ (n w : Nat) (s rest : List UInt8) (c : Nat), s.length ≤ n → s.all (fun c => plB c.toNat) = true → 1 ≤ w → c + w ≤ 75 → run 0 rest = true → run c (wrapd n w s ++ rest) = true := by
  have one : ∀ (s rest : List UInt8) (c : Nat), s.all (fun c => plB c.toNat) = true → c + s.length ≤ 75 → run 0 rest = true → run c (s ++ 13 :: 10 :: rest) = true := by
    intro s rest c h1 h2 h3
    refine run_app (pl_no10 h1) (by omega) ?_
    rw [run, if_neg (by decide), dp (by omega), Bool.true_and, run, if_pos rfl]
    exact h3
  intro n
  induction n with
  | zero =>
    intro w s rest c h1 h2 h3 h4 h5
    have := one s rest c h2 (by omega) h5
    simpa [wrapd] using this
  | succ n ih =>
    intro w s rest c h1 h2 h3 h4 h5
    unfold wrapd
    split
    · rename_i hlt
      have ht : (s.take w).all (fun c => plB c.toNat) = true := by
        rw [List.all_eq_true] at h2 ⊢
        exact fun x hx => h2 x (List.mem_of_mem_take hx)
      have hd : (s.drop w).all (fun c => plB c.toNat) = true := by
        rw [List.all_eq_true] at h2 ⊢
        exact fun x hx => h2 x (List.mem_of_mem_drop hx)
      have e : s.take w ++ 13 :: 10 :: 32 :: wrapd n 74 (s.drop w) ++ rest = s.take w ++ 13 :: 10 :: (32 :: (wrapd n 74 (s.drop w) ++ rest)) := by simp
      rw [e]
      refine one _ _ c ht (by rw [List.length_take]; omega) ?_
      rw [run, if_neg (by decide), dp (by omega), Bool.true_and]
      exact ih 74 (s.drop w) rest 1 (by rw [List.length_drop]; omega) hd (by omega) (by omega) h5
    · have := one s rest c h2 (by omega) h5
      simpa using this
theorem run_joined : ∀ (L : List (List UInt8)), L.all mayB = true → run 0 (joined L) = true
  | [], _ => rfl
  | s :: L, h => by
    rw [List.all_cons, Bool.and_eq_true] at h
    exact run_wrapd s.length 75 s (joined L) 0 (Nat.le_refl _) (may_and h.1).1 (by omega) (by omega) (run_joined L h.2)
theorem back_l1 (X Y : List ByteArray) (l : List UInt8) (hl : l.length ≤ 4096) : ∀ (k i c : Nat), l.length - i = k → i ≤ l.length → c ≤ i → run c (l.drop i) = true →
    ∃ c' : Int, voklaw4_FoldBack.l1 X (I l) Y 0 0 (c : Int) (i : Int) = voklaw4_FoldBack.l1 X (I l) Y 0 0 c' (l.length : Int) := by
  intro k
  induction k with
  | zero =>
    intro i c hk hi hc h
    have e : i = l.length := by omega
    subst e
    exact ⟨_, rfl⟩
  | succ k ih =>
    intro i c hk hi hc h
    have hlt : i < l.length := by omega
    have hd := drop_cons l i 0 hlt
    rw [hd, run] at h
    rw [voklaw4_FoldBack.l1_eq]
    simp (disch := omega) only [dp, dn, decide_true, decide_false, cond_true, cond_false, Bool.not_true, Bool.not_false, Bool.true_and, Bool.false_and, Bool.and_true, Bool.and_false, Bool.true_or, Bool.false_or, Bool.or_true, Bool.or_false, wr, Option.bind_some, tn_add, tn_add1, tn_sub1, tn_0, tn_1, Int.toNat_natCast, I_len, I_chr]
    have h10 := u8_eq (l.getD i 0) 10 (by omega)
    have hch : chr l i = (l.getD i 0).toNat := rfl
    by_cases hb : l.getD i 0 = 10
    · rw [if_pos hb] at h
      rw [dp (show (chr l i : Int) = 10 from by rw [hch, hb]; rfl), cond_true, voklaw4_FoldBack.l2_eq]
      simp (disch := omega) only [dp, dn, decide_true, decide_false, cond_true, cond_false, Bool.not_true, Bool.not_false, Bool.true_and, Bool.false_and, Bool.and_true, Bool.and_false, Bool.true_or, Bool.false_or, Bool.or_true, Bool.or_false, wr, Option.bind_some, tn_add, tn_add1, tn_sub1, tn_0, tn_1, Int.toNat_natCast]
      obtain ⟨c', hc'⟩ := ih (i + 1) 0 (by omega) (by omega) (by omega) h
      exact ⟨c', hc'⟩
    · rw [if_neg hb, Bool.and_eq_true] at h
      have hcc := of_decide_eq_true h.1
      rw [dn (show ¬ (chr l i : Int) = 10 from fun e => hb (h10.1 e)), cond_false, voklaw4_FoldBack.l2_eq]
      simp (disch := omega) only [dp, dn, decide_true, decide_false, cond_true, cond_false, Bool.not_true, Bool.not_false, Bool.true_and, Bool.false_and, Bool.and_true, Bool.and_false, Bool.true_or, Bool.false_or, Bool.or_true, Bool.or_false, wr, Option.bind_some, tn_add, tn_add1, tn_sub1, tn_0, tn_1, Int.toNat_natCast]
      obtain ⟨c', hc'⟩ := ih (i + 1) (c + 1) (by omega) (by omega) (by omega) h.2
      exact ⟨c', hc'⟩
theorem FoldBack_pure (b : List ByteArray) (ok : Tys.Ok (.cons (.row 9 .str) .nil) (b, ())) : voklaw4_FoldBack.f b = some (true, ()) := by
  obtain ⟨⟨o1, o2⟩, _⟩ := ok
  have e : b = (b.map B).map mkS := by rw [List.map_map]; exact (List.map_id b).symm
  obtain ⟨x, h1, h2⟩ := few_some (b.map B) (by rw [List.length_map]; exact o1) (by
    intro s hs
    rw [List.mem_map] at hs
    obtain ⟨a, ha, rfl⟩ := hs
    have := o2 a ha
    rw [← size_B]
    exact this)
  generalize b.map B = L at *
  subst e
  rw [voklaw4_FoldBack.f_eq, first_true, h1]
  cases x with
  | false => rfl
  | true =>
    obtain ⟨h3, h4⟩ := h2 rfl
    obtain ⟨j1, _⟩ := join_eq L h3 h4
    rw [j1]
    unfold joinA
    by_cases hm : L.all mayB = true
    · rw [if_pos hm]
      by_cases hbig : 4096 < (joined L).length
      · rw [if_pos hbig]
        rfl
      · rw [if_neg hbig]
        have hsp := fsplit_good (l := joined L) (by omega) (good_bad _ (good_joined L hm) (head_joined L hm))
        rw [lines_joined L [] hm, List.nil_append] at hsp
        simp (disch := omega) only [dp, dn, decide_true, decide_false, cond_true, cond_false, Bool.not_true, Bool.not_false, Bool.true_and, Bool.false_and, Bool.and_true, Bool.and_false, Bool.true_or, Bool.false_or, Bool.or_true, Bool.or_false, wr, Option.bind_some, tn_add, tn_add1, tn_sub1, tn_0, tn_1, Int.toNat_natCast, hsp]
        obtain ⟨c', hc'⟩ := back_l1 (L.map mkS) (L.map mkS) (joined L) (by omega) (joined L).length 0 0 rfl (Nat.zero_le _) (Nat.le_refl _) (by rw [List.drop_zero]; exact run_joined L hm)
        refine hc'.trans ?_
        rw [voklaw4_FoldBack.l1_eq, first_true, texts_eq _ _ (by rw [List.length_map]; omega) (by rw [List.length_map]; omega)]
        simp (disch := omega) only [dp, dn, decide_true, decide_false, cond_true, cond_false, Bool.not_true, Bool.not_false, Bool.true_and, Bool.false_and, Bool.and_true, Bool.and_false, Bool.true_or, Bool.false_or, Bool.or_true, Bool.or_false, wr, Option.bind_some, tn_add, tn_add1, tn_sub1, tn_0, tn_1, Int.toNat_natCast, I_len]
    · rw [if_neg hm]
      rfl
end Go.GV.YtlfiapleboklcaaDoor
