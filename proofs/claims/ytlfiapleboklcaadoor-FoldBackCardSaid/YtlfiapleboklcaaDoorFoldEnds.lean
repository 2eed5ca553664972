/-
FoldEnds: lines may end with 10 or with 13 10, and the last one with neither. (This session's own text.)
-/
import Derived.Test.YtlfiapleboklcaaDoorFoldLaws
set_option linter.unusedVariables false
set_option linter.unusedSimpArgs false
namespace Go.GV.YtlfiapleboklcaaDoor
open Go.Proofs
/-- Lines, each with an end; the last one without one if so said. -/
def ended (e : Bool) : List (List UInt8) → List UInt8
  | [] => []
  | s :: r => s ++ (eol e ++ ended e r)
def endedL : List (List UInt8) → List UInt8
  | [] => []
  | [s] => s
  | s :: r => s ++ (eol true ++ endedL r)
def okL (l : List (List UInt8)) : Prop := ∀ s ∈ l, allP s ∧ s ≠ []
theorem gd_ended (e : Bool) : ∀ {l : List (List UInt8)}, okL l → gd (ended e l) = true
  | [], _ => rfl
  | s :: r, h => gd_plain (h s List.mem_cons_self).1 (gd_eol e (gd_ended e fun x hx => h x (List.mem_cons_of_mem _ hx)))
theorem gd_endedL : ∀ {l : List (List UInt8)}, okL l → gd (endedL l) = true
  | [], _ => rfl
  | [s], h => by simpa [endedL] using gd_plain (h s List.mem_cons_self).1 (b := []) rfl
  | s :: t :: r, h => gd_plain (h s List.mem_cons_self).1 (gd_eol true (gd_endedL fun x hx => h x (List.mem_cons_of_mem _ hx)))
theorem lines_ended (e : Bool) : ∀ {l : List (List UInt8)} (acc : List (List UInt8)), okL l → lines acc (pieces (ended e l)) = acc ++ l
  | [], acc, _ => by simp [ended, pieces, segs, lines]
  | s :: r, acc, h => by
    have hs := (h s List.mem_cons_self).1
    show lines acc (pieces (s ++ (eol e ++ ended e r))) = _
    rw [pieces_eol hs]
    show lines (glue acc (trimCR _)) (pieces (ended e r)) = _
    rw [trim_eol hs, glue_plain hs, lines_ended e _ fun x hx => h x (List.mem_cons_of_mem _ hx)]
    simp
theorem lines_endedL : ∀ {l : List (List UInt8)} (acc : List (List UInt8)), okL l → lines acc (pieces (endedL l)) = acc ++ l
  | [], acc, _ => by simp [endedL, pieces, segs, lines]
  | [s], acc, h => by
    obtain ⟨hs, hne⟩ := h s List.mem_cons_self
    show lines acc (pieces s) = _
    rw [pieces_none (allP_no hs (by decide)), if_neg hne]
    show glue acc (trimCR s) = _
    rw [trim_plain hs, glue_plain hs]
  | s :: t :: r, acc, h => by
    have hs := (h s List.mem_cons_self).1
    show lines acc (pieces (s ++ (eol true ++ endedL (t :: r)))) = _
    rw [pieces_eol hs]
    show lines (glue acc (trimCR _)) (pieces (endedL (t :: r))) = _
    rw [trim_eol hs, glue_plain hs, lines_endedL _ fun x hx => h x (List.mem_cons_of_mem _ hx)]
    simp
theorem head_ended {f : List (List UInt8) → List UInt8} (hf : ∀ s r, ∃ w, f (s :: r) = s ++ w) (h0 : f [] = []) {l : List (List UInt8)} (h : okL l) : (f l).head? ≠ some 32 := by
  cases l with
  | nil => rw [h0]; simp
  | cons s r =>
    obtain ⟨w, hw⟩ := hf s r
    obtain ⟨hs, hne⟩ := h s List.mem_cons_self
    rw [hw]
    intro e
    cases s with
    | nil => exact hne rfl
    | cons x y => exact allP_head hs e
theorem ended_len (e : Bool) : ∀ l, (ended e l).length ≤ tot l + 2 * l.length
  | [] => by simp [ended, tot]
  | s :: r => by
    have ih := ended_len e r
    rw [tot_cons]
    simp only [ended, List.length_append, List.length_cons]
    have : (eol e).length ≤ 2 := by cases e <;> simp [eol]
    omega
theorem endedL_len : ∀ l, (endedL l).length ≤ tot l + 2 * l.length
  | [] => by simp [endedL, tot]
  | [s] => by simp [endedL, tot]
  | s :: t :: r => by
    have ih := endedL_len (t :: r)
    rw [tot_cons]
    simp only [endedL, List.length_append, List.length_cons] at ih ⊢
    have : (eol true).length = 2 := rfl
    omega
theorem split_ended (e : Bool) {l : List (List UInt8)} (h : okL l) (hl : tot l + 2 * l.length ≤ 4096) : fold_Split.f (I (ended e l)) = some (l.map mkS, 0, 0, ()) := by
  have := ended_len e l
  rw [fsplit_good (by omega) (good_of (gd_ended e h) (head_ended (fun s r => ⟨_, rfl⟩) rfl h)), lines_ended e [] h]
  rfl
theorem split_endedL {l : List (List UInt8)} (h : okL l) (hl : tot l + 2 * l.length ≤ 4096) : fold_Split.f (I (endedL l)) = some (l.map mkS, 0, 0, ()) := by
  have := endedL_len l
  rw [fsplit_good (by omega) (good_of (gd_endedL h) (head_ended (fun s r => by cases r with
    | nil => exact ⟨[], by simp [endedL]⟩
    | cons t r => exact ⟨_, rfl⟩) rfl h)), lines_endedL [] h]
  rfl
/-- The texts grow. -/
theorem ended_snoc (e : Bool) : ∀ (l : List (List UInt8)) (s : List UInt8), ended e (l ++ [s]) = ended e l ++ s ++ eol e
  | [], s => by simp [ended]
  | t :: r, s => by simp [ended, ended_snoc e r s]
def endedC : List (List UInt8) → List UInt8
  | [] => []
  | s :: r => s ++ (eol true ++ endedC r)
theorem endedL_snoc : ∀ (l : List (List UInt8)) (s : List UInt8), endedL (l ++ [s]) = ended true l ++ s
  | [], s => by simp [ended, endedL]
  | [t], s => by simp [ended, endedL]
  | t :: u :: r, s => by
    have := endedL_snoc (u :: r) s
    simp only [List.cons_append] at this ⊢
    simp only [endedL, this]
    simp [ended]
theorem ends_l9 {l : List (List UInt8)} (h : okL l) (hl : tot l + 2 * l.length ≤ 4096) : ∀ (k i : Nat), l.length - i = k → i ≤ l.length →
    voklaw4_FoldEnds.l9 (l.map mkS) (mkS (ended false (l.take i))) (mkS (ended true (l.take i))) (mkS (if i = l.length then endedL l else ended true (l.take i))) i = some (true, ()) := by
  intro k
  induction k with
  | zero =>
    intro i hk hi
    have e : i = l.length := by omega
    subst e
    rw [if_pos rfl, List.take_length, voklaw4_FoldEnds.l9_eq]
    simp only [bytesOf_B, B_mk, split_ended false h hl, split_ended true h hl, split_endedL h hl, first_true]
    simp (disch := omega) only [dp, dn, decide_true, decide_false, cond_true, cond_false, Bool.not_true, Bool.not_false, Bool.true_and, Bool.false_and, Bool.and_true, Bool.and_false, Bool.true_or, Bool.false_or, Bool.or_true, Bool.or_false, wr, Option.bind_some, tn_add, tn_add1, tn_sub1, tn_0, tn_1, Int.toNat_natCast, List.length_map]
    rw [texts_eq _ _ (by simp; omega) (by simp; omega)]
    simp (disch := omega) only [dp, dn, decide_true, decide_false, cond_true, cond_false, Bool.not_true, Bool.not_false, Bool.true_and, Bool.false_and, Bool.and_true, Bool.and_false, Bool.true_or, Bool.false_or, Bool.or_true, Bool.or_false, wr, Option.bind_some, tn_add, tn_add1, tn_sub1, tn_0, tn_1, Int.toNat_natCast]
  | succ k ih =>
    intro i hk hi
    have hlt : i < l.length := by omega
    have hnext := ih (i + 1) (by omega) (by omega)
    have htk : l.take (i + 1) = l.take i ++ [l.getD i []] := by
      rw [List.take_add_one, List.getElem?_eq_getElem hlt]
      simp [List.getD_eq_getElem?_getD, hlt]
    have b1 := ended_len false (l.take (i + 1))
    have b2 := ended_len true (l.take (i + 1))
    have ht : tot (l.take (i + 1)) ≤ tot l := by
      have := List.take_append_drop (i + 1) l
      have h2 := congrArg tot this
      rw [tot_app] at h2
      omega
    have hle : (l.take (i + 1)).length ≤ l.length := by simp; omega
    rw [htk, ended_snoc, ended_snoc] at hnext
    rw [htk] at b1 b2 ht hle
    rw [ended_snoc] at b1 b2
    simp only [List.length_append] at b1 b2 hle
    have l1 : (eol false).length = 1 := rfl
    have l2 : (eol true).length = 2 := rfl
    rw [tot_app] at b1 b2 ht
    rw [if_neg (by omega), voklaw4_FoldEnds.l9_eq]
    have hg : (l.map mkS).getD i ByteArray.empty = mkS (l.getD i []) := map_getD mkS l i [] _ hlt
    simp only [Int.toNat_natCast, hg, show (⟨#[10]⟩ : ByteArray) = mkS (eol false) from rfl, show (⟨#[13, 10]⟩ : ByteArray) = mkS (eol true) from rfl, mk_app]
    have hsz : ∀ b, (mkS (eol b)).size ≤ 2 := by intro b; cases b <;> decide
    have h1 := hsz true
    have h2 := hsz false
    by_cases hlast : i + 1 = l.length
    · rw [if_pos hlast] at hnext
      have hL : endedL l = ended true (l.take i) ++ l.getD i [] := by
        rw [← endedL_snoc, ← htk, hlast, List.take_length]
      rw [hL] at hnext
      rw [Int.natCast_add, Int.natCast_one] at hnext
      simp (disch := omega) only [dp, dn, decide_true, decide_false, cond_true, cond_false, Bool.not_true, Bool.not_false, Bool.true_and, Bool.false_and, Bool.and_true, Bool.and_false, Bool.true_or, Bool.false_or, Bool.or_true, Bool.or_false, wr, Option.bind_some, tn_add, tn_add1, tn_sub1, tn_0, tn_1, Int.toNat_natCast, List.length_map, szS, List.length_append]
      exact hnext
    · rw [if_neg hlast] at hnext
      rw [Int.natCast_add, Int.natCast_one] at hnext
      simp (disch := omega) only [dp, dn, decide_true, decide_false, cond_true, cond_false, Bool.not_true, Bool.not_false, Bool.true_and, Bool.false_and, Bool.and_true, Bool.and_false, Bool.true_or, Bool.false_or, Bool.or_true, Bool.or_false, wr, Option.bind_some, tn_add, tn_add1, tn_sub1, tn_0, tn_1, Int.toNat_natCast, List.length_map, szS, List.length_append]
      exact hnext
/-! ### The looks ahead -/
def mins : List (List UInt8) → Nat
  | [] => 0
  | s :: r => min s.length 3001 + 2 + mins r
theorem mins_app : ∀ a b, mins (a ++ b) = mins a + mins b
  | [], b => by simp [mins]
  | s :: a, b => by simp [mins, mins_app a b, Nat.add_assoc]
theorem mins_le : ∀ l, mins l ≤ 3003 * l.length
  | [] => by simp [mins]
  | s :: r => by have := mins_le r; simp only [mins, List.length_cons]; omega
theorem mins_small : ∀ {l : List (List UInt8)}, mins l ≤ 3000 → mins l = tot l + 2 * l.length ∧ ∀ s ∈ l, s.length ≤ 3001
  | [], _ => by simp [mins, tot]
  | s :: r, h => by
    simp only [mins] at h
    obtain ⟨h1, h2⟩ := mins_small (l := r) (by omega)
    refine ⟨?_, fun x hx => ?_⟩
    · rw [tot_cons]; simp only [mins, List.length_cons]; omega
    · rcases List.mem_cons.1 hx with rfl | hx
      · omega
      · exact h2 x hx
theorem ends_l3 {l : List (List UInt8)} {n : Int} {i : Nat} (hi : i < l.length) (h3 : i < 300) (hnext : allP ((l.getD i []).take 3001) → l.getD i [] ≠ [] → voklaw4_FoldEnds.l1 (l.map mkS) n ((i + 1 : Nat) : Int) = some (true, ())) :
    ∀ (k j : Nat), (l.getD i []).length - j = k → j ≤ (l.getD i []).length → j ≤ 3001 → allP ((l.getD i []).take j) → voklaw4_FoldEnds.l3 (l.map mkS) n i j = some (true, ()) := by
  have hg : (l.map mkS).getD i ByteArray.empty = mkS (l.getD i []) := map_getD mkS l i [] _ hi
  have h6 : allP ((l.getD i []).take 3001) → voklaw4_FoldEnds.l6 (l.map mkS) n i = some (true, ()) := by
    intro hp
    rw [voklaw4_FoldEnds.l6_eq, first_true]
    simp only [Int.toNat_natCast, hg, szS, List.length_map]
    by_cases h0 : (l.getD i []).length = 0
    · simp (disch := omega) only [dp, dn, decide_true, decide_false, cond_true, cond_false, Bool.not_true, Bool.not_false, Bool.true_and, Bool.false_and, Bool.and_true, Bool.and_false, Bool.true_or, Bool.false_or, Bool.or_true, Bool.or_false, wr, Option.bind_some, tn_add, tn_add1, tn_sub1, tn_0, tn_1, Int.toNat_natCast]
    · simp (disch := omega) only [dp, dn, decide_true, decide_false, cond_true, cond_false, Bool.not_true, Bool.not_false, Bool.true_and, Bool.false_and, Bool.and_true, Bool.and_false, Bool.true_or, Bool.false_or, Bool.or_true, Bool.or_false, wr, Option.bind_some, tn_add, tn_add1, tn_sub1, tn_0, tn_1, Int.toNat_natCast]
      exact hnext hp fun e => h0 (by rw [e]; rfl)
  intro k
  induction k with
  | zero =>
    intro j hk hj hj2 hp
    have e : j = (l.getD i []).length := by omega
    rw [voklaw4_FoldEnds.l3_eq]
    simp only [Int.toNat_natCast, hg, szS, List.length_map]
    simp (disch := omega) only [dp, dn, decide_true, decide_false, cond_true, cond_false, Bool.not_true, Bool.not_false, Bool.true_and, Bool.false_and, Bool.and_true, Bool.and_false, Bool.true_or, Bool.false_or, Bool.or_true, Bool.or_false, wr, Option.bind_some, tn_add, tn_add1, tn_sub1, tn_0, tn_1, Int.toNat_natCast]
    rw [voklaw4_FoldEnds.l4_eq]
    refine h6 ?_
    rw [e, List.take_length] at hp
    exact allP_take hp _
  | succ k ih =>
    intro j hk hj hj2 hp
    have hlt : j < (l.getD i []).length := by omega
    rw [voklaw4_FoldEnds.l3_eq]
    simp only [Int.toNat_natCast, hg, szS, List.length_map]
    by_cases h3001 : j < 3001
    · simp (disch := omega) only [dp, dn, decide_true, decide_false, cond_true, cond_false, Bool.not_true, Bool.not_false, Bool.true_and, Bool.false_and, Bool.and_true, Bool.and_false, Bool.true_or, Bool.false_or, Bool.or_true, Bool.or_false, wr, Option.bind_some, tn_add, tn_add1, tn_sub1, tn_0, tn_1, Int.toNat_natCast]
      have hb : bt (mkS (l.getD i [])) (j : Int) = (chr (l.getD i []) j : Int) := rfl
      rw [voklaw4_FoldEnds.l4_eq]
      simp only [Int.toNat_natCast, hg, szS, List.length_map, hb]
      have hnx : 33 ≤ chr (l.getD i []) j → chr (l.getD i []) j ≤ 126 → voklaw4_FoldEnds.l3 (l.map mkS) n i ((j + 1 : Nat) : Int) = some (true, ()) := by
        intro h1 h2
        refine ih (j + 1) (by omega) (by omega) (by omega) ?_
        intro x hx
        rw [List.take_add_one, List.getElem?_eq_getElem hlt] at hx
        simp only [Option.toList_some, List.mem_append, List.mem_singleton] at hx
        rcases hx with hx | hx
        · exact hp x hx
        · have : chr (l.getD i []) j = (l.getD i [])[j].toNat := by unfold chr; rw [List.getD_eq_getElem?_getD, List.getElem?_eq_getElem hlt]; rfl
          rw [hx]
          omega
      by_cases h1 : chr (l.getD i []) j < 33
      · simp (disch := omega) only [dp, dn, decide_true, decide_false, cond_true, cond_false, Bool.not_true, Bool.not_false, Bool.true_and, Bool.false_and, Bool.and_true, Bool.and_false, Bool.true_or, Bool.false_or, Bool.or_true, Bool.or_false, wr, Option.bind_some, tn_add, tn_add1, tn_sub1, tn_0, tn_1, Int.toNat_natCast]
        rw [voklaw4_FoldEnds.l5_eq, first_true]
        rfl
      · simp (disch := omega) only [dp, dn, decide_true, decide_false, cond_true, cond_false, Bool.not_true, Bool.not_false, Bool.true_and, Bool.false_and, Bool.and_true, Bool.and_false, Bool.true_or, Bool.false_or, Bool.or_true, Bool.or_false, wr, Option.bind_some, tn_add, tn_add1, tn_sub1, tn_0, tn_1, Int.toNat_natCast]
        by_cases h2 : chr (l.getD i []) j > 126
        · simp (disch := omega) only [dp, dn, decide_true, decide_false, cond_true, cond_false, Bool.not_true, Bool.not_false, Bool.true_and, Bool.false_and, Bool.and_true, Bool.and_false, Bool.true_or, Bool.false_or, Bool.or_true, Bool.or_false, wr, Option.bind_some, tn_add, tn_add1, tn_sub1, tn_0, tn_1, Int.toNat_natCast]
          rw [voklaw4_FoldEnds.l5_eq, first_true]
          rfl
        · simp (disch := omega) only [dp, dn, decide_true, decide_false, cond_true, cond_false, Bool.not_true, Bool.not_false, Bool.true_and, Bool.false_and, Bool.and_true, Bool.and_false, Bool.true_or, Bool.false_or, Bool.or_true, Bool.or_false, wr, Option.bind_some, tn_add, tn_add1, tn_sub1, tn_0, tn_1, Int.toNat_natCast]
          rw [voklaw4_FoldEnds.l5_eq]
          simp (disch := omega) only [dp, dn, decide_true, decide_false, cond_true, cond_false, Bool.not_true, Bool.not_false, Bool.true_and, Bool.false_and, Bool.and_true, Bool.and_false, Bool.true_or, Bool.false_or, Bool.or_true, Bool.or_false, wr, Option.bind_some, tn_add, tn_add1, tn_sub1, tn_0, tn_1, Int.toNat_natCast]
          exact hnx (by omega) (by omega)
    · have e : j = 3001 := by omega
      simp (disch := omega) only [dp, dn, decide_true, decide_false, cond_true, cond_false, Bool.not_true, Bool.not_false, Bool.true_and, Bool.false_and, Bool.and_true, Bool.and_false, Bool.true_or, Bool.false_or, Bool.or_true, Bool.or_false, wr, Option.bind_some, tn_add, tn_add1, tn_sub1, tn_0, tn_1, Int.toNat_natCast]
      rw [voklaw4_FoldEnds.l4_eq]
      refine h6 ?_
      rw [← e]
      exact hp
theorem ends_l1 (l : List (List UInt8)) (hlen : l.length ≤ 9223372036854775807) : ∀ (k i : Nat), l.length - i = k → i ≤ l.length → i ≤ 300 → (∀ s ∈ l.take i, allP (s.take 3001) ∧ s ≠ []) → voklaw4_FoldEnds.l1 (l.map mkS) (mins (l.take i) : Nat) i = some (true, ()) := by
  have h7 : ∀ i, i ≤ l.length → (∀ s ∈ l.take i, allP (s.take 3001) ∧ s ≠ []) → (i = l.length ∨ i = 300) → voklaw4_FoldEnds.l7 (l.map mkS) (mins (l.take i) : Nat) = some (true, ()) := by
    intro i hi hall hend
    have hb8 : ∀ x : Bool, (x = false → voklaw4_FoldEnds.l9 (l.map mkS) ⟨#[]⟩ ⟨#[]⟩ ⟨#[]⟩ 0 = some (true, ())) → voklaw4_FoldEnds.l8 (l.map mkS) x = some (true, ()) := by
      intro x h
      rw [voklaw4_FoldEnds.l8_eq, first_true]
      cases x
      · exact h rfl
      · rfl
    rw [voklaw4_FoldEnds.l7_eq, List.length_map]
    by_cases h1 : l.length > 300
    · simp (disch := omega) only [dp, dn, decide_true, decide_false, cond_true, cond_false, Bool.not_true, Bool.not_false, Bool.true_and, Bool.false_and, Bool.and_true, Bool.and_false, Bool.true_or, Bool.false_or, Bool.or_true, Bool.or_false, wr, Option.bind_some, tn_add, tn_add1, tn_sub1, tn_0, tn_1, Int.toNat_natCast]
      exact hb8 true fun h => by cases h
    · simp (disch := omega) only [dp, dn, decide_true, decide_false, cond_true, cond_false, Bool.not_true, Bool.not_false, Bool.true_and, Bool.false_and, Bool.and_true, Bool.and_false, Bool.true_or, Bool.false_or, Bool.or_true, Bool.or_false, wr, Option.bind_some, tn_add, tn_add1, tn_sub1, tn_0, tn_1, Int.toNat_natCast]
      refine hb8 _ fun h => ?_
      have h2 := of_decide_eq_false h
      have e : i = l.length := by omega
      subst e
      rw [List.take_length] at hall h2
      obtain ⟨h3, h4⟩ := mins_small (l := l) (by omega)
      have hok : okL l := fun s hs => by
        obtain ⟨g1, g2⟩ := hall s hs
        rw [List.take_of_length_le (h4 s hs)] at g1
        exact ⟨g1, g2⟩
      have := ends_l9 hok (by omega) l.length 0 rfl (Nat.zero_le _)
      rw [List.take_zero] at this
      have e0 : (if 0 = l.length then endedL l else ended true []) = [] := by
        split
        · rename_i h0
          have : l = [] := List.eq_nil_of_length_eq_zero h0.symm
          rw [this]
          rfl
        · rfl
      rw [e0] at this
      exact this
  intro k
  induction k with
  | zero =>
    intro i hk hi h3 hall
    have e : i = l.length := by omega
    rw [voklaw4_FoldEnds.l1_eq, List.length_map]
    simp (disch := omega) only [dp, dn, decide_true, decide_false, cond_true, cond_false, Bool.not_true, Bool.not_false, Bool.true_and, Bool.false_and, Bool.and_true, Bool.and_false, Bool.true_or, Bool.false_or, Bool.or_true, Bool.or_false, wr, Option.bind_some, tn_add, tn_add1, tn_sub1, tn_0, tn_1, Int.toNat_natCast]
    rw [voklaw4_FoldEnds.l2_eq]
    exact h7 i hi hall (.inl e)
  | succ k ih =>
    intro i hk hi h3 hall
    have hlt : i < l.length := by omega
    have hm := mins_le (l.take i)
    have hml : (l.take i).length ≤ 300 := by simp; omega
    rw [voklaw4_FoldEnds.l1_eq, List.length_map]
    by_cases h300 : i < 300
    · simp (disch := omega) only [dp, dn, decide_true, decide_false, cond_true, cond_false, Bool.not_true, Bool.not_false, Bool.true_and, Bool.false_and, Bool.and_true, Bool.and_false, Bool.true_or, Bool.false_or, Bool.or_true, Bool.or_false, wr, Option.bind_some, tn_add, tn_add1, tn_sub1, tn_0, tn_1, Int.toNat_natCast]
      rw [voklaw4_FoldEnds.l2_eq]
      have hg : (l.map mkS).getD i ByteArray.empty = mkS (l.getD i []) := map_getD mkS l i [] _ hlt
      simp only [Int.toNat_natCast, hg, szS, List.length_map]
      have hmm : mm false ((l.getD i []).length : Int) 3001 = ((min (l.getD i []).length 3001 : Nat) : Int) := by
        simp only [mm, cond_false]
        split <;> omega
      rw [hmm]
      simp (disch := omega) only [dp, dn, decide_true, decide_false, cond_true, cond_false, Bool.not_true, Bool.not_false, Bool.true_and, Bool.false_and, Bool.and_true, Bool.and_false, Bool.true_or, Bool.false_or, Bool.or_true, Bool.or_false, wr, Option.bind_some, tn_add, tn_add1, tn_sub1, tn_0, tn_1, Int.toNat_natCast]
      have htk : l.take (i + 1) = l.take i ++ [l.getD i []] := by
        rw [List.take_add_one, List.getElem?_eq_getElem hlt]
        simp [List.getD_eq_getElem?_getD, hlt]
      have hadd : ((mins (l.take i) : Nat) : Int) + ((min (l.getD i []).length 3001 : Nat) : Int) + 2 = ((mins (l.take (i + 1)) : Nat) : Int) := by
        rw [htk, mins_app]
        simp only [mins]
        omega
      rw [hadd]
      refine ends_l3 hlt h300 (fun g1 g2 => ?_) (l.getD i []).length 0 rfl (Nat.zero_le _) (Nat.zero_le _) (fun c hc => by simp at hc)
      refine ih (i + 1) (by omega) (by omega) (by omega) fun s hs => ?_
      rw [htk] at hs
      rcases List.mem_append.1 hs with hs | hs
      · exact hall s hs
      · rw [List.mem_singleton.1 hs]
        exact ⟨g1, g2⟩
    · simp (disch := omega) only [dp, dn, decide_true, decide_false, cond_true, cond_false, Bool.not_true, Bool.not_false, Bool.true_and, Bool.false_and, Bool.and_true, Bool.and_false, Bool.true_or, Bool.false_or, Bool.or_true, Bool.or_false, wr, Option.bind_some, tn_add, tn_add1, tn_sub1, tn_0, tn_1, Int.toNat_natCast]
      rw [voklaw4_FoldEnds.l2_eq]
      exact h7 i hi hall (.inr (by omega))
theorem FoldEnds_pure (a : List ByteArray) (ok : Tys.Ok (.cons (.row 9 .str) .nil) (a, ())) : voklaw4_FoldEnds.f a = some (true, ()) := by
  have hl : a.length ≤ 9223372036854775807 := ok.1.1
  have e : a = (a.map B).map mkS := by rw [List.map_map]; exact (List.map_id a).symm
  rw [e, voklaw4_FoldEnds.f_eq, first_true]
  exact ends_l1 (a.map B) (by simpa using hl) _ 0 rfl (Nat.zero_le _) (Nat.zero_le _) (fun s hs => by simp at hs)
end Go.GV.YtlfiapleboklcaaDoor
