/-
Cuts, words, lists of numbers. (This session's own text.)
-/
import Derived.Test.YtkkfgajlnpcpcaaGreatDoorRlNum
import Derived.Test.YtkkfgajlnpcpcaaGreatDoorCompact
set_option linter.unusedVariables false
set_option linter.unusedSimpArgs false
namespace Go.GV.YtkkfgajlnpcpcaaGreatDoor
open Go.Proofs
/-! ### The document's Split -/
theorem vsplit_l1 (c : UInt8) (s : List UInt8) (hs : s.length ≤ 1000000) : ∀ (k i from_ : Nat) (y : List ByteArray), s.length + 1 - i = k → from_ ≤ i → i ≤ s.length → y.length ≤ i → c ∉ (s.drop from_).take (i - from_) →
    vokref_Split.l1 (mkS s) (c.toNat : Int) from_ i y = some (y ++ (segs c (s.drop from_)).map mkS, ()) := by
  have hlim : limit = 17179869184 := rfl
  intro k
  induction k with
  | zero => intro i from_ y hk hf hi; omega
  | succ k ih =>
    intro i from_ y hk hf hi hy hn
    have hex : (mkS s).extract from_ i = mkS ((s.drop from_).take (i - from_)) := B_inj (by rw [B_ext, B_mk, B_mk])
    rw [vokref_Split.l1_eq]
    by_cases hlt : i < s.length
    · have hbt : bt (mkS s) (i : Int) = ((s.getD i 0).toNat : Int) := bt_nat (mkS s) i
      have hsp : s.drop from_ = (s.drop from_).take (i - from_) ++ s.getD i 0 :: s.drop (i + 1) := by
        conv => lhs; rw [← List.take_append_drop (i - from_) (s.drop from_)]
        rw [List.drop_drop, show from_ + (i - from_) = i by omega, drop_getD' 0 hlt]
      by_cases hc : ((s.getD i 0).toNat : Int) = (c.toNat : Int)
      · have hc' := (u8_int _ _).1 hc
        simp (disch := omega) only [dp, dn, decide_true, decide_false, cond_true, cond_false, Bool.not_true, Bool.not_false, Bool.true_and, Bool.false_and, Bool.and_true, Bool.and_false, Bool.true_or, Bool.false_or, Bool.or_true, Bool.or_false, wr, Option.bind_some, tn_add, tn_add1, tn_sub1, tn_0, tn_1, Int.toNat_natCast, szS, hbt, vokref_Split.l2_eq, hex, List.length_singleton, hlim]
        refine (ih (i + 1) (i + 1) (y ++ [mkS ((s.drop from_).take (i - from_))]) (by omega) (by omega) (by omega) (by simp; omega) (by simp)).trans ?_
        have hseg : segs c (s.drop from_) = (s.drop from_).take (i - from_) :: segs c (s.drop (i + 1)) := by
          conv => lhs; rw [hsp, hc']
          exact segs_some hn
        rw [hseg]
        simp
      · have hc' : ¬ s.getD i 0 = c := fun q => hc (by rw [q])
        simp (disch := omega) only [dp, dn, decide_true, decide_false, cond_true, cond_false, Bool.not_true, Bool.not_false, Bool.true_and, Bool.false_and, Bool.and_true, Bool.and_false, Bool.true_or, Bool.false_or, Bool.or_true, Bool.or_false, wr, Option.bind_some, tn_add, tn_add1, tn_sub1, tn_0, tn_1, Int.toNat_natCast, szS, hbt, vokref_Split.l2_eq]
        refine ih (i + 1) from_ y (by omega) (by omega) (by omega) (by omega) ?_
        rw [show i + 1 - from_ = (i - from_) + 1 by omega, take_getD' 0 (show i - from_ < (s.drop from_).length by rw [List.length_drop]; omega)]
        have : (s.drop from_).getD (i - from_) 0 = s.getD i 0 := by
          rw [getD_eq 0 (show i - from_ < (s.drop from_).length by rw [List.length_drop]; omega), getD_eq 0 hlt, List.getElem_drop]
          congr 1
          omega
        rw [this]
        intro q
        rcases List.mem_append.1 q with q | q
        · exact hn q
        · rw [List.mem_singleton] at q; exact hc' q.symm
    · have e : i = s.length := by omega
      subst e
      have ht : (s.drop from_).take (s.length - from_) = s.drop from_ := List.take_of_length_le (by rw [List.length_drop]; omega)
      rw [ht] at hn hex
      simp (disch := omega) only [dp, dn, decide_true, decide_false, cond_true, cond_false, Bool.not_true, Bool.not_false, Bool.true_and, Bool.false_and, Bool.and_true, Bool.and_false, Bool.true_or, Bool.false_or, Bool.or_true, Bool.or_false, wr, Option.bind_some, tn_add, tn_add1, tn_sub1, tn_0, tn_1, Int.toNat_natCast, szS, vokref_Split.l2_eq, hex, List.length_singleton, hlim]
      rw [vokref_Split.l1_eq]
      simp (disch := omega) only [dp, dn, decide_true, decide_false, cond_true, cond_false, Bool.not_true, Bool.not_false, Bool.true_and, Bool.false_and, Bool.and_true, Bool.and_false, Bool.true_or, Bool.false_or, Bool.or_true, Bool.or_false, wr, Option.bind_some, tn_add, tn_add1, tn_sub1, tn_0, tn_1, Int.toNat_natCast, szS]
      rw [segs_none hn]
      rfl
theorem vsplit_spec (c : UInt8) (s : List UInt8) (hs : s.length ≤ 1000000) : vokref_Split.f (mkS s) (c.toNat : Int) = some ((segs c s).map mkS, ()) := by
  rw [vokref_Split.f_eq]
  have := vsplit_l1 c s hs _ 0 0 [] rfl (Nat.le_refl _) (Nat.zero_le _) (Nat.le_refl _) (by simp)
  rw [Int.natCast_zero] at this
  simpa using this
theorem segs_len (c : UInt8) (l : List UInt8) : (segs c l).length ≤ l.length + 1 ∧ ∀ s ∈ segs c l, s.length ≤ l.length := by
  suffices h : ∀ (k : Nat) (l : List UInt8), l.length = k → (segs c l).length ≤ l.length + 1 ∧ ∀ s ∈ segs c l, s.length ≤ l.length from h _ l rfl
  intro k
  induction k using Nat.strongRecOn with
  | ind k ih =>
    intro l hl
    rcases first_of (c := c) (l := l) with h | ⟨a, b, h, h2⟩
    · rw [segs_none h]
      refine ⟨by simp, fun s hs => ?_⟩
      rw [List.mem_singleton] at hs
      rw [hs]
      exact Nat.le_refl _
    · subst h
      rw [segs_some h2]
      simp only [List.length_append, List.length_cons] at hl ⊢
      obtain ⟨h3, h4⟩ := ih b.length (by omega) b rfl
      refine ⟨by omega, fun s hs => ?_⟩
      rcases List.mem_cons.1 hs with rfl | hs
      · omega
      · have := h4 s hs; omega
theorem segs_ne (c : UInt8) (l : List UInt8) : segs c l ≠ [] := by
  rcases first_of (c := c) (l := l) with h | ⟨a, b, h, h2⟩
  · rw [segs_none h]; simp
  · subst h; rw [segs_some h2]; simp
/-! ### Words -/
def posF : Int → List (List UInt8) → List UInt8 → Int
  | _, [], _ => -1
  | i, w :: l, v => if w = v then i else posF (i + 1) l v
theorem posF_ge : ∀ (l : List (List UInt8)) (v : List UInt8) (i : Int), 0 ≤ i → (0 ≤ posF i l v ↔ v ∈ l) ∧ posF i l v ≤ i + l.length ∧ -1 ≤ posF i l v ∧ (posF i l v < 0 → posF i l v = -1)
  | [], v, i, h => by simp [posF]; omega
  | w :: l, v, i, h => by
    unfold posF
    by_cases hw : w = v
    · rw [if_pos hw]
      refine ⟨⟨fun _ => by rw [hw]; exact List.mem_cons_self, fun _ => h⟩, by simp; omega, by omega, by omega⟩
    · rw [if_neg hw]
      obtain ⟨h1, h2, h3, h4⟩ := posF_ge l v (i + 1) (by omega)
      refine ⟨h1.trans ⟨List.mem_cons_of_mem _, fun q => (List.mem_cons.1 q).resolve_left fun q => hw q.symm⟩, by simp; omega, h3, h4⟩
theorem posF_succ : ∀ (l : List (List UInt8)) (v : List UInt8) (i : Int), posF (i + 1) l v = if v ∈ l then posF i l v + 1 else -1
  | [], v, i => by simp [posF]
  | w :: l, v, i => by
    unfold posF
    by_cases hw : w = v
    · rw [if_pos hw, if_pos hw, if_pos (by rw [hw]; exact List.mem_cons_self)]
    · rw [if_neg hw, if_neg hw, posF_succ l v (i + 1)]
      by_cases hm : v ∈ l
      · rw [if_pos hm, if_pos (List.mem_cons_of_mem _ hm)]
      · rw [if_neg hm, if_neg fun q => hm ((List.mem_cons.1 q).resolve_left fun q => hw q.symm)]
theorem gm (l : List (List UInt8)) (i : Nat) (hi : i < l.length) : (l.map mkS).getD i ByteArray.empty = mkS (l.getD i []) := by
  rw [getD_eq ByteArray.empty (by simpa using hi), getD_eq [] hi, List.getElem_map]
theorem index_spec (l : List (List UInt8)) (v : List UInt8) (hl : l.length ≤ 1000000) : slices_Index_string_string.f (l.map mkS) (mkS v) = some (posF 0 l v, ()) := by
  have key : ∀ (k i : Nat), l.length - i = k → i ≤ l.length → slices_Index_string_string.l1 (l.map mkS) (mkS v) l.length i = some (posF i (l.drop i) v, ()) := by
    intro k
    induction k with
    | zero =>
      intro i hk hi
      have e : i = l.length := by omega
      subst e
      rw [slices_Index_string_string.l1_eq, List.drop_length]
      simp (disch := omega) only [dp, dn, decide_true, decide_false, cond_true, cond_false, Bool.not_true, Bool.not_false, Bool.true_and, Bool.false_and, Bool.and_true, Bool.and_false, Bool.true_or, Bool.false_or, Bool.or_true, Bool.or_false, wr, Option.bind_some, tn_add, tn_add1, tn_sub1, tn_0, tn_1, Int.toNat_natCast]
      rfl
    | succ k ih =>
      intro i hk hi
      have hlt : i < l.length := by omega
      have hg := gm l i hlt
      have hml : (l.map mkS).length = l.length := List.length_map ..
      rw [slices_Index_string_string.l1_eq, drop_getD' [] hlt]
      simp only [beq_S]
      simp (disch := omega) only [dp, dn, decide_true, decide_false, cond_true, cond_false, Bool.not_true, Bool.not_false, Bool.true_and, Bool.false_and, Bool.and_true, Bool.and_false, Bool.true_or, Bool.false_or, Bool.or_true, Bool.or_false, wr, Option.bind_some, tn_add, tn_add1, tn_sub1, tn_0, tn_1, Int.toNat_natCast, hml, hg, posF]
      by_cases h : l.getD i [] = v
      · rw [if_pos h, dp (by rw [h]), cond_true]
      · rw [if_neg h, dn fun q => h (mkS_inj q.symm), cond_false]
        exact ih (i + 1) (by omega) (by omega)
  rw [slices_Index_string_string.f_eq]
  have := key _ 0 rfl (Nat.zero_le _)
  rw [List.drop_zero, Int.natCast_zero] at this
  rw [List.length_map]
  exact this
theorem contains_spec (l : List (List UInt8)) (v : List UInt8) (hl : l.length ≤ 1000000) : slices_Contains_string_string.f (l.map mkS) (mkS v) = some (decide (v ∈ l), ()) := by
  rw [slices_Contains_string_string.f_eq, index_spec l v hl]
  simp only [Option.bind_some]
  rw [show decide (posF 0 l v ≥ 0) = decide (v ∈ l) from decide_eq_decide.2 (posF_ge l v 0 (by omega)).1]
theorem word_spec (l : List (List UInt8)) (v : List UInt8) (hl : l.length ≤ 1000000) : vokref4_word.f (l.map mkS) (mkS v) = some (if v = [] then -1 else posF 0 l v, ()) := by
  have key : ∀ (k i : Nat), l.length - i = k → i ≤ l.length → vokref4_word.l1 (l.map mkS) (mkS v) i = some (if v = [] then -1 else posF i (l.drop i) v, ()) := by
    intro k
    induction k with
    | zero =>
      intro i hk hi
      have e : i = l.length := by omega
      subst e
      have hml : (l.map mkS).length = l.length := List.length_map ..
      rw [vokref4_word.l1_eq, List.drop_length]
      simp (disch := omega) only [dp, dn, decide_true, decide_false, cond_true, cond_false, Bool.not_true, Bool.not_false, Bool.true_and, Bool.false_and, Bool.and_true, Bool.and_false, Bool.true_or, Bool.false_or, Bool.or_true, Bool.or_false, wr, Option.bind_some, tn_add, tn_add1, tn_sub1, tn_0, tn_1, Int.toNat_natCast, hml]
      by_cases hv : v = []
      · rw [if_pos hv]
      · rw [if_neg hv]; rfl
    | succ k ih =>
      intro i hk hi
      have hlt : i < l.length := by omega
      have hg := gm l i hlt
      have hml : (l.map mkS).length = l.length := List.length_map ..
      have next := ih (i + 1) (by omega) (by omega)
      rw [vokref4_word.l1_eq, drop_getD' [] hlt]
      simp only [beq_S]
      simp (disch := omega) only [dp, dn, decide_true, decide_false, cond_true, cond_false, Bool.not_true, Bool.not_false, Bool.true_and, Bool.false_and, Bool.and_true, Bool.and_false, Bool.true_or, Bool.false_or, Bool.or_true, Bool.or_false, wr, Option.bind_some, tn_add, tn_add1, tn_sub1, tn_0, tn_1, Int.toNat_natCast, hml, hg]
      have hmt : (⟨#[]⟩ : ByteArray) = mkS [] := rfl
      rw [hmt]
      by_cases hv : v = []
      · rw [if_pos hv] at next ⊢
        have e2 : decide (mkS v = mkS []) = true := dp (by rw [hv])
        rw [e2]
        by_cases h : mkS (l.getD i []) = mkS v
        · rw [dp h, cond_true, vokref4_word.l2_eq]
          simp (disch := omega) only [dp, dn, decide_true, decide_false, cond_true, cond_false, Bool.not_true, Bool.not_false, Bool.true_and, Bool.false_and, Bool.and_true, Bool.and_false, Bool.true_or, Bool.false_or, Bool.or_true, Bool.or_false, wr, Option.bind_some, tn_add, tn_add1, tn_sub1, tn_0, tn_1, Int.toNat_natCast]
          exact next
        · rw [dn h, cond_false, vokref4_word.l2_eq]
          simp (disch := omega) only [dp, dn, decide_true, decide_false, cond_true, cond_false, Bool.not_true, Bool.not_false, Bool.true_and, Bool.false_and, Bool.and_true, Bool.and_false, Bool.true_or, Bool.false_or, Bool.or_true, Bool.or_false, wr, Option.bind_some, tn_add, tn_add1, tn_sub1, tn_0, tn_1, Int.toNat_natCast]
          exact next
      · rw [if_neg hv] at next ⊢
        have e2 : decide (mkS v = mkS []) = false := dn fun q => hv (mkS_inj q)
        rw [e2]
        unfold posF
        by_cases h : l.getD i [] = v
        · rw [if_pos h, dp (by rw [h]), cond_true, vokref4_word.l2_eq]
          simp (disch := omega) only [dp, dn, decide_true, decide_false, cond_true, cond_false, Bool.not_true, Bool.not_false, Bool.true_and, Bool.false_and, Bool.and_true, Bool.and_false, Bool.true_or, Bool.false_or, Bool.or_true, Bool.or_false, wr, Option.bind_some, tn_add, tn_add1, tn_sub1, tn_0, tn_1, Int.toNat_natCast]
        · rw [if_neg h, dn fun q => h (mkS_inj q), cond_false, vokref4_word.l2_eq]
          simp (disch := omega) only [dp, dn, decide_true, decide_false, cond_true, cond_false, Bool.not_true, Bool.not_false, Bool.true_and, Bool.false_and, Bool.and_true, Bool.and_false, Bool.true_or, Bool.false_or, Bool.or_true, Bool.or_false, wr, Option.bind_some, tn_add, tn_add1, tn_sub1, tn_0, tn_1, Int.toNat_natCast]
          exact next
  rw [vokref4_word.f_eq]
  have := key _ 0 rfl (Nat.zero_le _)
  rw [List.drop_zero, Int.natCast_zero] at this
  exact this
/-! ### Lists of numbers -/
theorem isN_uniq {s : List UInt8} {n m : Int} (h : isN s n) (g : isN s m) : n = m := itoa_inj (h.1.symm.trans g.1)
theorem nums_or : ∀ p : List (List UInt8), (∃ ns, All2 isN p ns) ∨ ∃ s ∈ p, ∀ n, ¬ isN s n
  | [] => .inl ⟨[], trivial⟩
  | s :: p => by
    by_cases h : ∃ n, isN s n
    · obtain ⟨n, hn⟩ := h
      rcases nums_or p with ⟨ns, h2⟩ | ⟨t, ht, h2⟩
      · exact .inl ⟨n :: ns, hn, h2⟩
      · exact .inr ⟨t, List.mem_cons_of_mem _ ht, h2⟩
    · exact .inr ⟨s, List.mem_cons_self, fun n hn => h ⟨n, hn⟩⟩
theorem sorted_dds {y : List Int} (hy : y.length ≤ 1000000) : ∃ r, slices_Sort_int_int.f y = some (r, ()) ∧ r.length = y.length ∧ rises (dds r) ∧ ∀ x, x ∈ dds r ↔ x ∈ y := by
  have hs : slices_Sort_int_int.f y = some (y.mergeSort fun x y => decide (x ≤ y), ()) := by
    rw [slices_Sort_int_int.f_sem]
    show (bif decide (List.length y ≤ limit) then some (List.mergeSort (α := Int) y (fun x y => decide (x ≤ y)), ()) else none) = _
    rw [dp (by simp only [limit]; omega), cond_true]
  have hp : (y.mergeSort fun x y => decide (x ≤ y)).Perm y := List.mergeSort_perm y _
  have hso : (y.mergeSort fun x y => decide (x ≤ y)).Pairwise (· ≤ ·) := by
    have := List.pairwise_mergeSort (le := fun x y : Int => decide (x ≤ y)) (fun a b c h1 h2 => by simp at *; omega) (fun a b => by simp; omega) y
    exact this.imp fun h => by simpa using h
  generalize y.mergeSort (fun x y => decide (x ≤ y)) = r at hs hp hso
  refine ⟨r, hs, hp.length_eq, ?_, fun x => ?_⟩
  · cases r with
    | nil => exact List.Pairwise.nil
    | cons a r => exact dd_rises r a hso
  · have e : x ∈ dds r ↔ x ∈ r := by
      cases r with
      | nil => exact Iff.rfl
      | cons a r =>
        show x ∈ a :: dd a r ↔ _
        rw [List.mem_cons, List.mem_cons]
        have := dd_mem r a x
        constructor
        · rintro (h | h)
          · exact .inl h
          · rcases this.1 (.inl h) with h | h
            · exact .inr h
            · exact .inl h
        · rintro (h | h)
          · exact .inl h
          · rcases this.2 (.inl h) with h | h
            · exact .inr h
            · exact .inl h
    rw [e, hp.mem_iff]
noncomputable def listEnd (y : List Int) : Option (List Int × Bool × Unit) := bif decide ((y.length : Int) > 60) then (some ([], false, ())) else ((slices_Sort_int_int.f y).bind fun t3 => (slices_Compact_int_int.f t3.1).bind fun t4 => some (t4.1, true, ()))
theorem list_l1 (p : List (List UInt8)) (hp : p.length ≤ 100000) (hpl : ∀ s ∈ p, s.length ≤ 100000) : ∀ (k i : Nat) (y : List Int), p.length - i = k → i ≤ p.length → y.length ≤ i →
    (∀ ns, All2 isN (p.drop i) ns → rule_list.l1 (p.map mkS) p.length i y = listEnd (y ++ ns)) ∧ ((∃ s ∈ p.drop i, ∀ n, ¬ isN s n) → rule_list.l1 (p.map mkS) p.length i y = some ([], false, ())) := by
  have hlim : limit = 17179869184 := rfl
  have hml : (p.map mkS).length = p.length := List.length_map ..
  intro k
  induction k with
  | zero =>
    intro i y hk hi hy
    have e : i = p.length := by omega
    subst e
    rw [rule_list.l1_eq, List.drop_length]
    simp (disch := omega) only [dp, dn, decide_true, decide_false, cond_true, cond_false, Bool.not_true, Bool.not_false, Bool.true_and, Bool.false_and, Bool.and_true, Bool.and_false, Bool.true_or, Bool.false_or, Bool.or_true, Bool.or_false, wr, Option.bind_some, tn_add, tn_add1, tn_sub1, tn_0, tn_1, Int.toNat_natCast, hml]
    refine ⟨fun ns hns => ?_, fun ⟨s, hs, _⟩ => by cases hs⟩
    cases ns with
    | nil => rw [List.append_nil]; rfl
    | cons _ _ => exact hns.elim
  | succ k ih =>
    intro i y hk hi hy
    have hlt : i < p.length := by omega
    have hg := gm p i hlt
    rw [rule_list.l1_eq, drop_getD' [] hlt]
    rcases number_spec (p.getD i []) (by have := hpl _ (getD_mem' [] hlt); omega) with ⟨n, hn, hf⟩ | ⟨hn, n, hf⟩
    · simp (disch := omega) only [dp, dn, decide_true, decide_false, cond_true, cond_false, Bool.not_true, Bool.not_false, Bool.true_and, Bool.false_and, Bool.and_true, Bool.and_false, Bool.true_or, Bool.false_or, Bool.or_true, Bool.or_false, wr, Option.bind_some, tn_add, tn_add1, tn_sub1, tn_0, tn_1, Int.toNat_natCast, hml, hg, hf, List.length_singleton, hlim]
      obtain ⟨h1, h2⟩ := ih (i + 1) (y ++ [n]) (by omega) (by omega) (by simp; omega)
      refine ⟨fun ns hns => ?_, fun ⟨s, hs, hs2⟩ => ?_⟩
      · cases ns with
        | nil => exact hns.elim
        | cons m ns =>
          have e := isN_uniq hns.1 hn
          subst e
          refine (h1 ns hns.2).trans ?_
          rw [List.append_assoc]
          rfl
      · refine h2 ?_
        rcases List.mem_cons.1 hs with rfl | hs
        · exact absurd hn (hs2 n)
        · exact ⟨s, hs, hs2⟩
    · simp (disch := omega) only [dp, dn, decide_true, decide_false, cond_true, cond_false, Bool.not_true, Bool.not_false, Bool.true_and, Bool.false_and, Bool.and_true, Bool.and_false, Bool.true_or, Bool.false_or, Bool.or_true, Bool.or_false, wr, Option.bind_some, tn_add, tn_add1, tn_sub1, tn_0, tn_1, Int.toNat_natCast, hml, hg, hf]
      refine ⟨fun ns hns => ?_, fun _ => trivial⟩
      cases ns with
      | nil => exact hns.elim
      | cons m ns => exact absurd hns.1 (hn m)
theorem vnums_l1 (p : List (List UInt8)) (hp : p.length ≤ 100000) (hpl : ∀ s ∈ p, s.length ≤ 100000) : ∀ (k i : Nat) (y : List Int), p.length - i = k → i ≤ p.length → y.length ≤ i →
    (∀ ns, All2 isN (p.drop i) ns → vokref4_numbers.l1 (p.map mkS) i y = ((vokref_Sorted.f (y ++ ns)).bind fun t3 => some (t3.1, true, ()))) ∧ ((∃ s ∈ p.drop i, ∀ n, ¬ isN s n) → vokref4_numbers.l1 (p.map mkS) i y = some ([], false, ())) := by
  have hlim : limit = 17179869184 := rfl
  have hml : (p.map mkS).length = p.length := List.length_map ..
  intro k
  induction k with
  | zero =>
    intro i y hk hi hy
    have e : i = p.length := by omega
    subst e
    rw [vokref4_numbers.l1_eq, List.drop_length]
    simp (disch := omega) only [dp, dn, decide_true, decide_false, cond_true, cond_false, Bool.not_true, Bool.not_false, Bool.true_and, Bool.false_and, Bool.and_true, Bool.and_false, Bool.true_or, Bool.false_or, Bool.or_true, Bool.or_false, wr, Option.bind_some, tn_add, tn_add1, tn_sub1, tn_0, tn_1, Int.toNat_natCast, hml]
    refine ⟨fun ns hns => ?_, fun ⟨s, hs, _⟩ => by cases hs⟩
    cases ns with
    | nil => rw [List.append_nil]
    | cons _ _ => exact hns.elim
  | succ k ih =>
    intro i y hk hi hy
    have hlt : i < p.length := by omega
    have hg := gm p i hlt
    rw [vokref4_numbers.l1_eq, drop_getD' [] hlt]
    rcases vnumber_spec (p.getD i []) (by have := hpl _ (getD_mem' [] hlt); omega) with ⟨n, hn, hf⟩ | ⟨hn, n, hf⟩
    · simp (disch := omega) only [dp, dn, decide_true, decide_false, cond_true, cond_false, Bool.not_true, Bool.not_false, Bool.true_and, Bool.false_and, Bool.and_true, Bool.and_false, Bool.true_or, Bool.false_or, Bool.or_true, Bool.or_false, wr, Option.bind_some, tn_add, tn_add1, tn_sub1, tn_0, tn_1, Int.toNat_natCast, hml, hg, hf, List.length_singleton, hlim]
      obtain ⟨h1, h2⟩ := ih (i + 1) (y ++ [n]) (by omega) (by omega) (by simp; omega)
      refine ⟨fun ns hns => ?_, fun ⟨s, hs, hs2⟩ => ?_⟩
      · cases ns with
        | nil => exact hns.elim
        | cons m ns =>
          have e := isN_uniq hns.1 hn
          subst e
          refine (h1 ns hns.2).trans ?_
          rw [List.append_assoc]
          rfl
      · refine h2 ?_
        rcases List.mem_cons.1 hs with rfl | hs
        · exact absurd hn (hs2 n)
        · exact ⟨s, hs, hs2⟩
    · simp (disch := omega) only [dp, dn, decide_true, decide_false, cond_true, cond_false, Bool.not_true, Bool.not_false, Bool.true_and, Bool.false_and, Bool.and_true, Bool.and_false, Bool.true_or, Bool.false_or, Bool.or_true, Bool.or_false, wr, Option.bind_some, tn_add, tn_add1, tn_sub1, tn_0, tn_1, Int.toNat_natCast, hml, hg, hf]
      refine ⟨fun ns hns => ?_, fun _ => trivial⟩
      cases ns with
      | nil => exact hns.elim
      | cons m ns => exact absurd hns.1 (hn m)
theorem All2_len {α β : Type} {R : α → β → Prop} : ∀ {l : List α} {m : List β}, All2 R l m → l.length = m.length
  | [], [], _ => rfl
  | _ :: l, _ :: m, h => by simp [All2_len h.2]
  | [], _ :: _, h => h.elim
  | _ :: _, [], h => h.elim
/-- What a text of numbers is. -/
def isL (v : List UInt8) (r : List Int) : Prop := (rises r ∧ r.length ≤ 60) ∧ ∃ ns, All2 isN (segs 44 v) ns ∧ ns.length ≤ 60 ∧ ∀ x, x ∈ r ↔ x ∈ ns
theorem dd_len : ∀ (l : List Int) (p : Int), (dd p l).length ≤ l.length
  | [], _ => Nat.le_refl _
  | a :: l, p => by
    unfold dd
    have := dd_len l a
    split <;> simp <;> omega
theorem dds_len (l : List Int) : (dds l).length ≤ l.length := by
  cases l with
  | nil => exact Nat.le_refl _
  | cons a l => show (a :: dd a l).length ≤ _; simp [dd_len]
theorem list_spec (v : List UInt8) (hv : v.length ≤ 50000) :
    (∃ r, isL v r ∧ rule_list.f (mkS v) = some (r, true, ()) ∧ vokref4_numbers.f (mkS v) = some (r, true, ())) ∨
    ((∀ r, ¬ isL v r) ∧ rule_list.f (mkS v) = some ([], false, ()) ∧ vokref4_numbers.f (mkS v) = some ([], false, ())) := by
  have hsl := segs_len 44 v
  have hS : strings_Split.f (mkS v) ⟨#[44]⟩ = some ((segs 44 v).map mkS, ()) := split_one (c := 44) v (by omega)
  have hV : vokref_Split.f (mkS v) 44 = some ((segs 44 v).map mkS, ()) := vsplit_spec 44 v (by omega)
  have hml : ((segs 44 v).map mkS).length = (segs 44 v).length := List.length_map ..
  have h1 := list_l1 (segs 44 v) (by omega) (fun s hs => by have := hsl.2 s hs; omega) _ 0 [] rfl (Nat.zero_le _) (Nat.le_refl _)
  have h2 := vnums_l1 (segs 44 v) (by omega) (fun s hs => by have := hsl.2 s hs; omega) _ 0 [] rfl (Nat.zero_le _) (Nat.le_refl _)
  rw [List.drop_zero, Int.natCast_zero] at h1 h2
  have hf1 : rule_list.f (mkS v) = rule_list.l1 ((segs 44 v).map mkS) (segs 44 v).length 0 [] := by rw [rule_list.f_eq, hS, ← hml]; rfl
  have hf2 : vokref4_numbers.f (mkS v) = bif decide (((segs 44 v).length : Int) > 60) then some ([], false, ()) else vokref4_numbers.l1 ((segs 44 v).map mkS) 0 [] := by rw [vokref4_numbers.f_eq, hV, ← hml]; rfl
  rcases nums_or (segs 44 v) with ⟨ns, hns⟩ | hbad
  · have hlen := All2_len hns
    have e1 := h1.1 ns hns
    have e2 := h2.1 ns hns
    rw [List.nil_append] at e1 e2
    by_cases h60 : (ns.length : Int) > 60
    · refine .inr ⟨fun r hr => ?_, ?_, ?_⟩
      · obtain ⟨_, ms, h3, h4, _⟩ := hr
        have := All2_len h3
        omega
      · rw [hf1, e1]
        unfold listEnd
        simp (disch := omega) only [dp, dn, decide_true, decide_false, cond_true, cond_false, Bool.not_true, Bool.not_false, Bool.true_and, Bool.false_and, Bool.and_true, Bool.and_false, Bool.true_or, Bool.false_or, Bool.or_true, Bool.or_false, wr, Option.bind_some, tn_add, tn_add1, tn_sub1, tn_0, tn_1, Int.toNat_natCast]
      · rw [hf2]
        simp (disch := omega) only [dp, dn, decide_true, decide_false, cond_true, cond_false, Bool.not_true, Bool.not_false, Bool.true_and, Bool.false_and, Bool.and_true, Bool.and_false, Bool.true_or, Bool.false_or, Bool.or_true, Bool.or_false, wr, Option.bind_some, tn_add, tn_add1, tn_sub1, tn_0, tn_1, Int.toNat_natCast]
    · obtain ⟨r, h3, h4, h5, h6⟩ := sorted_dds (y := ns) (by omega)
      obtain ⟨q, h7, h8, h9⟩ := Sorted_spec ns (by omega)
      have e : q = dds r := rises_uniq h8 h5 fun x => (h9 x).trans (h6 x).symm
      subst e
      refine .inl ⟨dds r, ⟨⟨h5, by have := dds_len r; omega⟩, ns, hns, by omega, h6⟩, ?_, ?_⟩
      · rw [hf1, e1]
        unfold listEnd
        simp (disch := omega) only [dp, dn, decide_true, decide_false, cond_true, cond_false, Bool.not_true, Bool.not_false, Bool.true_and, Bool.false_and, Bool.and_true, Bool.and_false, Bool.true_or, Bool.false_or, Bool.or_true, Bool.or_false, wr, Option.bind_some, tn_add, tn_add1, tn_sub1, tn_0, tn_1, Int.toNat_natCast, h3, compact_spec r (by omega)]
      · rw [hf2, e2]
        simp (disch := omega) only [dp, dn, decide_true, decide_false, cond_true, cond_false, Bool.not_true, Bool.not_false, Bool.true_and, Bool.false_and, Bool.and_true, Bool.and_false, Bool.true_or, Bool.false_or, Bool.or_true, Bool.or_false, wr, Option.bind_some, tn_add, tn_add1, tn_sub1, tn_0, tn_1, Int.toNat_natCast, h7]
  · refine .inr ⟨fun r hr => ?_, ?_, ?_⟩
    · obtain ⟨_, ms, h3, _, _⟩ := hr
      obtain ⟨s, hs, hs2⟩ := hbad
      have : ∀ (p : List (List UInt8)) (ms : List Int), All2 isN p ms → s ∈ p → ∃ n, isN s n := by
        intro p
        induction p with
        | nil => intro ms _ h; cases h
        | cons t p ih =>
          intro ms h hm
          cases ms with
          | nil => exact h.elim
          | cons m ms =>
            rcases List.mem_cons.1 hm with rfl | hm
            · exact ⟨m, h.1⟩
            · exact ih ms h.2 hm
      obtain ⟨n, hn⟩ := this _ ms h3 hs
      exact hs2 n hn
    · rw [hf1, h1.2 hbad]
    · rw [hf2, h2.2 hbad]
      cases decide (((segs 44 v).length : Int) > 60) <;> rfl
end Go.GV.YtkkfgajlnpcpcaaGreatDoor
